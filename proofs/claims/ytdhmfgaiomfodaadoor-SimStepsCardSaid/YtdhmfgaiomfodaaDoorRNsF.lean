/- Put together: Sm11, Sm12, Sm13, Sm14, Sm15, Sm16. -/
import Derived.Test.YtdhmfgaiomfodaaDoorRNsD
import Derived.Test.YtdhmfgaiomfodaaDoorRNsE
namespace Go.Proofs.YtdhmfgaiomfodaaDoor
open Go Go.RowKit
attribute [local irreducible] wd

/-- A program, right in all that the code asks. -/
structure ProgOK (c : List Ins) (G : Nat) : Prop where
  r : RightC c G
  ok : ∀ i ∈ c, InsOK i c.length G
  last : (c[c.length - 1]?).map (·.op) = some 5

/-- What New answers. -/
def NewR (c : List Ins) (G : Nat) (A : Option Addr) (cc : Nat) (pos : Int) (w : World) (e : Ending) (w' : World) : Prop := ∃ gr gs, e = .returned (.tuple #[.pointer (some ⟨gr, 0, none⟩), .nilIface]) ∧ RunM ⟨A, cc, c, G, gr, gs⟩ w' pos (.slice none 0 0) [] [] (List.replicate c.length 0) 1 ∧ Ext w w' ∧ w.heap.size ≤ gs
def NewSl (M lo : Nat) (v : Value) (w : World) : Prop := ∃ gs, v = .slice (some ⟨gs, 0, none⟩) M M ∧ Blk w gs 3 (List.replicate M (.int .i64 0)) ∧ lo ≤ gs
def runCells (A : Option Addr) (M cc G : Nat) (pos : Int) (gs : Nat) : List Value := [.slice A M cc, .int .i64 (G : Nat), .int .i64 pos, .slice none 0 0, .slice (some ⟨gs, 0, none⟩) M M, .int .i64 1]
def NewAg (A : Option Addr) (M cc G : Nat) (pos : Int) (lo : Nat) (v : Value) (w : World) : Prop := ∃ gs, v = .agg (runCells A M cc G pos gs).toArray ∧ Blk w gs 3 (List.replicate M (.int .i64 0)) ∧ lo ≤ gs
def NewBx (A : Option Addr) (M cc G : Nat) (pos : Int) (lo : Nat) (v : Value) (w : World) : Prop := ∃ gr gs, v = .pointer (some ⟨gr, 0, none⟩) ∧ Blk w gr 103 (runCells A M cc G pos gs) ∧ Blk w gs 3 (List.replicate M (.int .i64 0)) ∧ lo ≤ gs ∧ gs < gr

set_option maxHeartbeats 4000000 in
set_option maxRecDepth 20000 in
theorem smNew (c : List Ins) (G : Nat) (h : ProgOK c G) (A : Option Addr) (cc : Nat) (pos : Int) (hp0 : 0 ≤ pos) (hp1 : pos ≤ 1099511627776) (w : World) (hR : Rd w 8 A c.length (codeV c)) :
    Calls Tryd.prog 31 #[.agg #[.slice A c.length cc, .int .i64 (G : Nat)], .int .i64 pos] w fun e w' => NewR c G A cc pos w e w' := by
  have hx0 := Ext.new1 w (.cells #[.slice A c.length cc, .int .i64 (G : Nat)] 32)
  have HX := Lib.hid hx0
  obtain ⟨gp, hgp⟩ : ∃ gp, w.heap.size = gp := ⟨_, rfl⟩
  have HB := Lib.hid (Blk.newA (w := w) hgp 32 [.slice A c.length cc, .int .i64 (G : Nat)])
  have HR := Lib.hid (hR.keep hx0)
  have HR0 := Lib.hid hR
  have HK := Lib.hid h
  have HGP := Lib.hid hgp
  have b0 := HB.out.cell 0
  have b1 := HB.out.cell 1
  have q1 : ¬ pos < 0 := by omega
  have q2 : ¬ (1099511627776 : Int) < pos := by omega
  obtain ⟨M, hM⟩ : ∃ M, c.length = M := ⟨_, rfl⟩
  have HM := Lib.hid hM
  rw [hM] at HB HX b0 b1 ⊢
  clear hR h hx0 hgp hM
  go_enter Tryd.func31, Tryd.ntmps31
  go_upto_region 1 with fail
  rw [HGP.out]
  rw [HM.out] at HR
  generalize w.alloc (.cells _ 32) = wa at *
  go_upto_region 5 with (go_at_call 16; rw [← HM.out]; refine (nfRight c G HK.out.r.pos HK.out.r.most HK.out.r.few HK.out.last A cc HK.out.ok wa (by rw [HM.out]; exact HR.out)).mono ?_; rintro e w1 ⟨rfl, hx1⟩)
  have HX1 := Lib.hid (Ext.trans HX.out hx1)
  have hb1 := HB.out.keep hx1
  rw [HM.out]
  have d0 : w1.cell? ⟨gp, 0, none⟩ = some (.slice A M cc) := hb1.cell 0
  have d1 : w1.cell? ⟨gp, 1, none⟩ = some (.int .i64 (G : Nat)) := hb1.cell 1
  have hml : ¬ (M : Int) < 0 := by omega
  have hmm : (M : Int) ≤ 9223372036854775807 := by have := HK.out.r.most; have := HM.out; omega
  have HM4 := Lib.hid (show M ≤ 400 by have := HK.out.r.most; have := HM.out; omega)
  clear b0 b1 hb1
  have HD := Lib.hid (And.intro d0 d1)
  clear d0 d1
  refine wp_region_dag (E := Ext) (w0 := w1) (Φ := fun i v w => match i with | 0 => (v = .agg #[.slice A M cc, .int .i64 (G : Nat)]) | 1 => (v = .int .i64 pos) | 2 => (v = .pointer (some ⟨gp, 0, none⟩)) | 3 => (v = .slice A M cc) | 4 => (v = .int .i64 (M : Nat)) | 5 => (NewSl M w1.heap.size v w) | 6 => (NewAg A M cc G pos w1.heap.size v w) | 7 => (NewBx A M cc G pos w1.heap.size v w) | 8 => (NewBx A M cc G pos w1.heap.size v w) | 9 => (v = .nilIface) | _ => True) (show Tryd.prog.follows .mixedOrders = true from Checked.mixed Tryd.checked) 27 rfl (by decide +kernel) ?_ ((Below.refl _ _).drew) ?_ ⟨?_, ?_, ?_, ?_, ?_, ?_, ?_, ?_, ?_, ?_, trivial⟩ ?_
  · intro i v w w' h hE
    match i, h with
    | 0, h => exact h
    | 1, h => exact h
    | 2, h => exact h
    | 3, h => exact h
    | 4, h => exact h
    | 5, h => exact (by obtain ⟨gs, g1, g2, g3⟩ := h; exact ⟨gs, g1, g2.keep hE, g3⟩)
    | 6, h => exact (by obtain ⟨gs, g1, g2, g3⟩ := h; exact ⟨gs, g1, g2.keep hE, g3⟩)
    | 7, h => exact (by obtain ⟨gr, gs, g1, g0, g2, g3, g4⟩ := h; exact ⟨gr, gs, g1, g0.keep hE, g2.keep hE, g3, g4⟩)
    | 8, h => exact (by obtain ⟨gr, gs, g1, g0, g2, g3, g4⟩ := h; exact ⟨gr, gs, g1, g0.keep hE, g2.keep hE, g3, g4⟩)
    | 9, h => exact h
    | _ + 10, _ => trivial
  · exact fun w w' h h' => h.trans h'
  ·
    intro ac wx hE hsz hdf h
    have e2 : ac.tmps[2]? = some (.pointer (some ⟨gp, 0, none⟩)) := by obtain ⟨v, h1, h2⟩ := h 2 (by decide +kernel); exact h1.trans (h2.symm.trans rfl)
    clear h hsz hdf
    have y0 := HD.out.1; have y1 := HD.out.2; have hc : Chg [] w1 wx := .of_ext hE; have z0 := hc.cell y0 (by simp); have z1 := hc.cell y1 (by simp)
    go_wp2
    exact ⟨_, rfl, rfl, Ext.refl _⟩
  ·
    intro ac wx hE hsz hdf h
    have e1 : ac.tmps[1]? = some (.int .i64 pos) := by obtain ⟨v, h1, h2⟩ := h 1 (by decide +kernel); exact h1.trans (h2.symm.trans rfl)
    clear h hsz hdf
    go_wp2
    exact ⟨_, rfl, rfl, Ext.refl _⟩
  ·
    intro ac wx hE hsz hdf h
    have e2 : ac.tmps[2]? = some (.pointer (some ⟨gp, 0, none⟩)) := by obtain ⟨v, h1, h2⟩ := h 2 (by decide +kernel); exact h1.trans (h2.symm.trans rfl)
    clear h hsz hdf
    go_wp2
    exact ⟨_, rfl, rfl, Ext.refl _⟩
  ·
    intro ac wx hE hsz hdf h
    have e21 : ac.tmps[21]? = some (.pointer (some ⟨gp, 0, none⟩)) := by obtain ⟨v, h1, h2⟩ := h 21 (by decide +kernel); rw [h1]; exact congrArg some h2
    clear h hsz hdf
    have y0 := HD.out.1; have hc : Chg [] w1 wx := .of_ext hE; have z0 := hc.cell y0 (by simp)
    go_wp2
    exact ⟨_, rfl, rfl, Ext.refl _⟩
  ·
    intro ac wx hE hsz hdf h
    have e22 : ac.tmps[22]? = some (.slice A M cc) := by obtain ⟨v, h1, h2⟩ := h 22 (by decide +kernel); rw [h1]; exact congrArg some h2
    clear h hsz hdf
    go_wp2
    exact ⟨_, rfl, rfl, Ext.refl _⟩
  ·
    intro ac wx hE hsz hdf h
    have e23 : ac.tmps[23]? = some (.int .i64 (M : Nat)) := by obtain ⟨v, h1, h2⟩ := h 23 (by decide +kernel); rw [h1]; exact congrArg some h2
    clear h hsz hdf
    have hsz8 := hE.size
    go_wp2_with ((refine wpList_mk1 (kl := .i64) (kc := .i64) Tryd.elemI rfl rfl (.tmp 23) (.tmp 23) rfl (L := ((M : Nat) : Int)) (C := ((M : Nat) : Int)) (n := M) (cap := M) (by simp only [Act.eval, Array.getD_eq_getD_getElem?, e23]; rfl) (by simp only [Act.eval, Array.getD_eq_getD_getElem?, e23]; rfl) rfl rfl (Nat.le_refl _) (by have := HM4.out; omega) (by have := HM4.out; unfold maxLen; omega) ?_; intro w9 hB9 hb9))
    exact ⟨_, rfl, ⟨_, rfl, hB9, hE.size⟩, hb9⟩
  ·
    intro ac wx hE hsz hdf h
    have e19 : ac.tmps[19]? = some (.agg #[.slice A M cc, .int .i64 (G : Nat)]) := by obtain ⟨v, h1, h2⟩ := h 19 (by decide +kernel); rw [h1]; exact congrArg some h2
    have e20 : ac.tmps[20]? = some (.int .i64 pos) := by obtain ⟨v, h1, h2⟩ := h 20 (by decide +kernel); rw [h1]; exact congrArg some h2
    obtain ⟨v24, e24, s24⟩ : ∃ v, ac.tmps[24]? = some v ∧ (NewSl M w1.heap.size v wx) := h 24 (by decide +kernel)
    clear h hsz hdf
    obtain ⟨gs, rfl, hs1, hs2⟩ := s24
    go_wp2
    exact ⟨_, rfl, ⟨gs, rfl, hs1, hs2⟩, Ext.refl _⟩
  ·
    intro ac wx hE hsz hdf h
    obtain ⟨v25, e25, s25⟩ : ∃ v, ac.tmps[25]? = some v ∧ (NewAg A M cc G pos w1.heap.size v wx) := h 25 (by decide +kernel)
    clear h hsz hdf
    obtain ⟨gs, rfl, hs1, hs2⟩ := s25; unfold runCells at *; have hlt9 := Blk.lt hs1
    go_wp2
    exact ⟨_, rfl, ⟨_, gs, rfl, Blk.newL wx 103 (runCells A M cc G pos gs), hs1.keep (Ext.new1 _ _), hs2, hlt9⟩, Ext.new1 _ _⟩
  ·
    intro ac wx hE hsz hdf h
    obtain ⟨v26, e26, s26⟩ : ∃ v, ac.tmps[26]? = some v ∧ (NewBx A M cc G pos w1.heap.size v wx) := h 26 (by decide +kernel)
    clear h hsz hdf
    obtain ⟨gr, gs, rfl, hs0, hs1, hs2, hs3⟩ := s26
    go_wp2
    exact ⟨_, rfl, ⟨gr, gs, rfl, hs0, hs1, hs2, hs3⟩, Ext.refl _⟩
  ·
    intro ac wx hE hsz hdf h
    clear h hsz hdf
    go_wp2
    exact ⟨_, rfl, rfl, Ext.refl _⟩
  · intro ac w9 hE hsz hdf h hrest
    obtain ⟨v0, s0, g0⟩ := h 0 _ rfl
    have e0 := g0 19 rfl
    obtain rfl : v0 = .agg #[.slice A M cc, .int .i64 (G : Nat)] := s0
    obtain ⟨v1, s1, g1⟩ := h 1 _ rfl
    have e1 := g1 20 rfl
    obtain rfl : v1 = .int .i64 pos := s1
    obtain ⟨v2, s2, g2⟩ := h 2 _ rfl
    have e2 := g2 21 rfl
    obtain rfl : v2 = .pointer (some ⟨gp, 0, none⟩) := s2
    obtain ⟨v3, s3, g3⟩ := h 3 _ rfl
    have e3 := g3 22 rfl
    obtain rfl : v3 = .slice A M cc := s3
    obtain ⟨v4, s4, g4⟩ := h 4 _ rfl
    have e4 := g4 23 rfl
    obtain rfl : v4 = .int .i64 (M : Nat) := s4
    obtain ⟨v5, s5, g5⟩ := h 5 _ rfl
    have e5 := g5 24 rfl
    replace s5 : NewSl M w1.heap.size v5 w9 := s5
    obtain ⟨v6, s6, g6⟩ := h 6 _ rfl
    have e6 := g6 25 rfl
    replace s6 : NewAg A M cc G pos w1.heap.size v6 w9 := s6
    obtain ⟨v7, s7, g7⟩ := h 7 _ rfl
    have e7 := g7 26 rfl
    replace s7 : NewBx A M cc G pos w1.heap.size v7 w9 := s7
    obtain ⟨v8, s8, g8⟩ := h 8 _ rfl
    have e8 := g8 4 rfl
    replace s8 : NewBx A M cc G pos w1.heap.size v8 w9 := s8
    obtain ⟨v9, s9, g9⟩ := h 9 _ rfl
    have e9 := g9 5 rfl
    obtain rfl : v9 = .nilIface := s9
    have ha := act_of [(19, .agg #[.slice A M cc, .int .i64 (G : Nat)]), (20, .int .i64 pos), (21, .pointer (some ⟨gp, 0, none⟩)), (22, .slice A M cc), (23, .int .i64 (M : Nat)), (24, v5), (25, v6), (26, v7), (4, v8), (5, .nilIface)] rfl hsz hdf (by intro p hp; simp only [List.mem_cons, List.not_mem_nil, or_false] at hp; rcases hp with rfl | rfl | rfl | rfl | rfl | rfl | rfl | rfl | rfl | rfl <;> first | exact e0 | exact e1 | exact e2 | exact e3 | exact e4 | exact e5 | exact e6 | exact e7 | exact e8 | exact e9) hrest
    clear h hrest hsz hdf e0 e1 e2 e3 e4 e5 e6 e7 e8 e9 g0 g1 g2 g3 g4 g5 g6 g7 g8 g9
    subst ha
    simp only [List.foldl_cons, List.foldl_nil, Act.put, List.setIfInBounds_toArray, List.set_cons_succ, List.set_cons_zero]
    obtain ⟨gr, gs, rfl, hs0, hs1, hs2, hs3⟩ := s8
    have hX := Ext.trans HX1.out hE
    have HF := Lib.hid (show RunM ⟨A, cc, c, G, gr, gs⟩ w9 pos (.slice none 0 0) [] [] (List.replicate c.length 0) 1 ∧ Ext w w9 ∧ w.heap.size ≤ gs from by
      refine ⟨⟨by rw [HM.out]; exact hs0, HR0.out.keep hX, fun b o x e => ?_, hs3, ?_, by simp, World.ownsRow_nil _ _ _ _, rfl⟩, hX, Nat.le_trans HX1.out.size hs2⟩
      · obtain ⟨b', o', e', hlt, _⟩ := HR0.out.2 (by rw [codeV_len]; have := HK.out.r.pos; omega)
        dsimp only at e ⊢
        rw [e'] at e
        cases e
        have := HX1.out.size
        omega
      · rw [HM.out]
        unfold intsV
        rw [List.map_replicate]
        exact hs1)
    clear hs0 hs1 hs2 hs3 hX s5 s6 s7
    go_wp2
    go_ret2
    exact ⟨gr, gs, rfl, HF.out⟩
end Go.Proofs.YtdhmfgaiomfodaaDoor
namespace Go.Proofs.YtdhmfgaiomfodaaDoor
open Go Go.RowKit
attribute [local irreducible] wd

theorem FolR.keep {R : RS} {pos turn : Int} {w w1 w2 : World} {v : Value} {s' : Nat → Bool} {WT : List Way} (h : FolR R pos turn w v s' WT w1) (hx : Ext w1 w2) : FolR R pos turn w v s' WT w2 := by
  obtain ⟨v', cs', sv', h1, h2, h3, h4⟩ := h
  exact ⟨v', cs', sv', h1.keep hx, h2, h3, h4.then_ext hx⟩
theorem FolR.from {R : RS} {pos turn : Int} {w0 w w1 : World} {v : Value} {s' : Nat → Bool} {WT : List Way} (h : FolR R pos turn w v s' WT w1) (hx : RN R w0 v w v) : FolR R pos turn w0 v s' WT w1 := by
  obtain ⟨v', cs', sv', h1, h2, h3, h4⟩ := h
  exact ⟨v', cs', sv', h1, h2, h3, hx.trans h4⟩
def NewCp (b n : Nat) (x : Int) (v : Value) (w : World) : Prop := ∃ A c, v = .slice A n c ∧ w.ownsRow b 3 1 v n (intsV (List.replicate n x))
def NewWy (b n : Nat) (x pos : Int) (v : Value) (w : World) : Prop := ∃ A c, v = .agg #[.int .i64 0, .int .i64 pos, .slice A n c] ∧ w.ownsRow b 3 1 (.slice A n c) n (intsV (List.replicate n x))
def NewOne (b : Nat) (x : Int) (v : Value) (w : World) : Prop := ∃ vb : Nat, v = .slice (some ⟨vb, 0, none⟩) 1 1 ∧ Blk w vb 3 [.int .i64 x] ∧ b ≤ vb
theorem own_up {w w' : World} {b size n : Nat} {e : TypeId} {v : Value} {xs : List Value} {X : List Nat} (h : w.ownsRow b e size v n xs) (hX : ∀ x ∈ X, x < b) (hc : Chg X w w') : w'.ownsRow b e size v n xs :=
  own_chg h hc fun k hk hm => by have := (h.lt k hk).1; have := hX k hm; omega

set_option maxHeartbeats 4000000 in
set_option maxRecDepth 20000 in
theorem smBegin (R : RS) (hR : RightC R.c R.G) (pos turn : Int) (ht0 : 0 ≤ turn) (ht1 : turn ≤ 1000000) {s s' : Nat → Bool} {L : List Th} (hF : Fol R.c pos s 0 (List.replicate (2 * R.G) (-1)) s' L)
    (v0 : Value) (cs : List Value) (W : List Way) (sv : List Int) (w0 : World) (hs : seenB sv turn = s) (hle : ∀ x ∈ sv, x ≤ turn) (hB : W.length + un R.c s ≤ 1000) (hM : RunM R w0 pos v0 cs W sv turn) :
    Calls Tryd.prog 32 #[.pointer (some ⟨R.gr, 0, none⟩)] w0 fun e w' => e = .returned (.tuple #[]) ∧ FolR R pos turn w0 v0 s' (W ++ L.map fun e => (e.1, pos, e.2)) w' := by
  have HM := Lib.hid hM
  have HF := Lib.hid hF
  have HS := Lib.hid hs
  have HLE := Lib.hid hle
  have HBD := Lib.hid hB
  have HR := Lib.hid hR
  obtain ⟨gr, hgr⟩ : ∃ gr, R.gr = gr := ⟨_, rfl⟩
  have HGR := Lib.hid hgr
  have HW := Lib.hid (show Blk w0 gr 103 _ from hgr ▸ hM.blk)
  obtain ⟨G, hG⟩ : ∃ G, R.G = G := ⟨_, rfl⟩
  have HG := Lib.hid hG
  have hG9 : G ≤ 9 := by rw [← hG]; exact hR.few
  have hw2 : IntKind.i64.wrap (2 * (G : Int)) = ((2 * G : Nat) : Int) := by rw [wrap_id (by omega) (by omega)]; omega
  have HW2 := Lib.hid hw2
  have HG9 := Lib.hid hG9
  rw [hgr]
  obtain ⟨B0, hB0⟩ : ∃ B0, w0.heap.size = B0 := ⟨_, rfl⟩
  have HB0 := Lib.hid hB0
  obtain ⟨X0, hX0⟩ : ∃ X0, R.gr :: R.gs :: v0.ownBlock.toList = X0 := ⟨_, rfl⟩
  have hXL : ∀ x ∈ X0, x < B0 := by rw [← hX0, ← hB0]; exact hM.lt
  have HXL := Lib.hid hXL
  have HX0 := Lib.hid hX0
  clear hM hF hs hle hB hR hgr hG hG9 hw2 hB0 hXL hX0
  go_enter Tryd.func32, Tryd.ntmps32
  go_upto_region 0 with fail
  refine wp_region_dagQ (X := fun j => if j = 14 then X0 else []) (XX := (X0)) (late := fun j => if j = 4 then [13, 14] else if j = 10 then [11, 12, 13, 14] else if j = 14 then [] else []) (Pre := fun i w => (i = 4 → w.cell? ⟨gr, 2, none⟩ = some (.int .i64 pos)) ∧ (i = 10 → w.cell? ⟨gr, 1, none⟩ = some (.int .i64 (G : Nat))) ∧ (i = 14 → RunM R w pos v0 cs W sv turn) ∧ True) (w0 := w0) (Φ := fun i v w => match i with | 0 => (v = .pointer (some ⟨gr, 0, none⟩)) | 1 => (v = .pointer (some ⟨gr, 0, none⟩)) | 2 => (v = .pointer (some ⟨gr, 0, none⟩)) | 3 => (v = .pointer (some ⟨gr, 2, none⟩)) | 4 => (v = .int .i64 pos) | 5 => (NewOne B0 (-1) v w) | 6 => (v = .pointer (some ⟨gr, 0, none⟩)) | 7 => (v = .pointer (some ⟨gr, 0, none⟩)) | 8 => (v = .pointer (some ⟨gr, 0, none⟩)) | 9 => (v = .pointer (some ⟨gr, 1, none⟩)) | 10 => (v = .int .i64 (G : Nat)) | 11 => (v = .int .i64 ((2 * G : Nat) : Int)) | 12 => (NewCp B0 (2 * G) (-1) v w) | 13 => (NewWy B0 (2 * G) (-1) pos v w) | 14 => (FolR R pos turn w0 v0 s' (W ++ L.map fun e => (e.1, pos, e.2)) w) | _ => True) (show Tryd.prog.follows .mixedOrders = true from Checked.mixed Tryd.checked) 17 rfl (by decide +kernel) ?_ ?_ ?_ ?_ ?_ ⟨?_, ?_, ?_, ?_, ?_, ?_, ?_, ?_, ?_, ?_, ?_, ?_, ?_, ?_, ?_, trivial⟩ ?_
  · intro j x hx
    by_cases hj14 : j = 14
    · subst hj14; have hx' : x ∈ X0 := hx; first | exact hx' | (rw [List.mem_append]; first | exact .inl hx' | exact .inr hx')
    simp [hj14] at hx
  · intro j
    by_cases hj4 : j = 4
    · subst hj4; decide +kernel
    by_cases hj10 : j = 10
    · subst hj10; decide +kernel
    by_cases hj14 : j = 14
    · subst hj14; decide +kernel
    simp [hj4, hj10, hj14, lateOk]
  · intro i
    exact ⟨fun _ => (HW.out.keep ((Below.refl _ _).drew)).cell 2, fun _ => by rw [← HG.out]; exact (HW.out.keep ((Below.refl _ _).drew)).cell 1, fun _ => HM.out.keep ((Below.refl _ _).drew), trivial⟩
  · intro i j w w' hij hnl h hc
    refine ⟨?_, ?_, ?_, trivial⟩
    · intro hi
      subst hi
      have hp := h.1 rfl
      have hc' : Chg [] w w' := hc.mono (fun x hx => by
        by_cases hj14 : j = 14
        · subst hj14; exact absurd (by decide) hnl
        simp [hj14] at hx)
      exact hc'.cell hp (by simp)
    · intro hi
      subst hi
      have hp := h.2.1 rfl
      have hc' : Chg [] w w' := hc.mono (fun x hx => by
        by_cases hj14 : j = 14
        · subst hj14; exact absurd (by decide) hnl
        simp [hj14] at hx)
      exact hc'.cell hp (by simp)
    · intro hi
      subst hi
      have hp := h.2.2.1 rfl
      have hc' : Chg [] w w' := hc.mono (fun x hx => by
        by_cases hj14 : j = 14
        · exact absurd hj14 (by omega)
        simp [hj14] at hx)
      exact hp.keep (hc'.ext (by simp))
  · intro i j v w w' hij hla h hc
    by_cases hj14 : j = 14
    · subst hj14
      have hc' : Chg X0 w w' := hc
      match i, hij, hla, h with
      | 0, _, _, h => exact h
      | 1, _, _, h => exact h
      | 2, _, _, h => exact h
      | 3, _, _, h => exact h
      | 4, _, _, h => exact h
      | 5, _, _, h => exact (by obtain ⟨vb, g1, g2, g3⟩ := h; exact ⟨vb, g1, g2.chg hc' (fun hm => by have := HXL.out vb hm; omega), g3⟩)
      | 6, _, _, h => exact h
      | 7, _, _, h => exact h
      | 8, _, _, h => exact h
      | 9, _, _, h => exact h
      | 10, _, _, h => exact h
      | 11, _, _, h => exact h
      | 12, _, _, h => exact (by obtain ⟨A, c, g1, g2⟩ := h; exact ⟨A, c, g1, own_up g2 HXL.out hc'⟩)
      | 13, _, _, h => exact (by obtain ⟨A, c, g1, g2⟩ := h; exact ⟨A, c, g1, own_up g2 HXL.out hc'⟩)
      | 14, hij, _, _ => exact absurd rfl hij
      | _ + 15, _, _, _ => trivial
    have hc0 : Chg [] w w' := by simpa [hj14] using hc
    have hE : Ext w w' := hc0.ext (by simp)
    match i, h with
    | 0, h => exact h
    | 1, h => exact h
    | 2, h => exact h
    | 3, h => exact h
    | 4, h => exact h
    | 5, h => exact (by obtain ⟨vb, g1, g2, g3⟩ := h; exact ⟨vb, g1, g2.keep hE, g3⟩)
    | 6, h => exact h
    | 7, h => exact h
    | 8, h => exact h
    | 9, h => exact h
    | 10, h => exact h
    | 11, h => exact h
    | 12, h => exact (by obtain ⟨A, c, g1, g2⟩ := h; exact ⟨A, c, g1, own_ext g2 hE⟩)
    | 13, h => exact (by obtain ⟨A, c, g1, g2⟩ := h; exact ⟨A, c, g1, own_ext g2 hE⟩)
    | 14, h => exact FolR.keep h hE
    | _ + 15, _ => trivial
  ·
    intro ac wx hE hP hsz hdf h
    have e0 : ac.tmps[0]? = some (.pointer (some ⟨gr, 0, none⟩)) := by obtain ⟨v, h1, h2⟩ := h 0 (by decide +kernel); exact h1.trans (h2.symm.trans rfl)
    clear h hsz hdf
    go_wp2
    exact ⟨_, rfl, rfl, Chg.refl _ _⟩
  ·
    intro ac wx hE hP hsz hdf h
    have e0 : ac.tmps[0]? = some (.pointer (some ⟨gr, 0, none⟩)) := by obtain ⟨v, h1, h2⟩ := h 0 (by decide +kernel); exact h1.trans (h2.symm.trans rfl)
    clear h hsz hdf
    go_wp2
    exact ⟨_, rfl, rfl, Chg.refl _ _⟩
  ·
    intro ac wx hE hP hsz hdf h
    have e3 : ac.tmps[3]? = some (.pointer (some ⟨gr, 0, none⟩)) := by obtain ⟨v, h1, h2⟩ := h 3 (by decide +kernel); rw [h1]; exact congrArg some h2
    clear h hsz hdf
    go_wp2
    exact ⟨_, rfl, rfl, Chg.refl _ _⟩
  ·
    intro ac wx hE hP hsz hdf h
    have e4 : ac.tmps[4]? = some (.pointer (some ⟨gr, 0, none⟩)) := by obtain ⟨v, h1, h2⟩ := h 4 (by decide +kernel); rw [h1]; exact congrArg some h2
    clear h hsz hdf
    go_wp2
    exact ⟨_, rfl, rfl, Chg.refl _ _⟩
  ·
    intro ac wx hE hP hsz hdf h
    have e5 : ac.tmps[5]? = some (.pointer (some ⟨gr, 2, none⟩)) := by obtain ⟨v, h1, h2⟩ := h 5 (by decide +kernel); rw [h1]; exact congrArg some h2
    clear h hsz hdf
    have y := hP.1 rfl
    go_wp2
    exact ⟨_, rfl, rfl, Chg.refl _ _⟩
  ·
    intro ac wx hE hP hsz hdf h
    clear h hsz hdf
    have hsz := hE.size
    go_wp2
    exact ⟨_, rfl, ⟨_, rfl, Blk.newL wx 3 [.int .i64 (-1)], by have := HB0.out; omega⟩, .of_ext (Ext.new1 _ _)⟩
  ·
    intro ac wx hE hP hsz hdf h
    have e0 : ac.tmps[0]? = some (.pointer (some ⟨gr, 0, none⟩)) := by obtain ⟨v, h1, h2⟩ := h 0 (by decide +kernel); exact h1.trans (h2.symm.trans rfl)
    clear h hsz hdf
    go_wp2
    exact ⟨_, rfl, rfl, Chg.refl _ _⟩
  ·
    intro ac wx hE hP hsz hdf h
    have e8 : ac.tmps[8]? = some (.pointer (some ⟨gr, 0, none⟩)) := by obtain ⟨v, h1, h2⟩ := h 8 (by decide +kernel); rw [h1]; exact congrArg some h2
    clear h hsz hdf
    go_wp2
    exact ⟨_, rfl, rfl, Chg.refl _ _⟩
  ·
    intro ac wx hE hP hsz hdf h
    have e9 : ac.tmps[9]? = some (.pointer (some ⟨gr, 0, none⟩)) := by obtain ⟨v, h1, h2⟩ := h 9 (by decide +kernel); rw [h1]; exact congrArg some h2
    clear h hsz hdf
    go_wp2
    exact ⟨_, rfl, rfl, Chg.refl _ _⟩
  ·
    intro ac wx hE hP hsz hdf h
    have e10 : ac.tmps[10]? = some (.pointer (some ⟨gr, 0, none⟩)) := by obtain ⟨v, h1, h2⟩ := h 10 (by decide +kernel); rw [h1]; exact congrArg some h2
    clear h hsz hdf
    go_wp2
    exact ⟨_, rfl, rfl, Chg.refl _ _⟩
  ·
    intro ac wx hE hP hsz hdf h
    have e11 : ac.tmps[11]? = some (.pointer (some ⟨gr, 1, none⟩)) := by obtain ⟨v, h1, h2⟩ := h 11 (by decide +kernel); rw [h1]; exact congrArg some h2
    clear h hsz hdf
    have y := hP.2.1 rfl
    go_wp2
    exact ⟨_, rfl, rfl, Chg.refl _ _⟩
  ·
    intro ac wx hE hP hsz hdf h
    have e12 : ac.tmps[12]? = some (.int .i64 (G : Nat)) := by obtain ⟨v, h1, h2⟩ := h 12 (by decide +kernel); rw [h1]; exact congrArg some h2
    clear h hsz hdf
    have hw2 := HW2.out
    go_wp2
    exact ⟨_, rfl, rfl, Chg.refl _ _⟩
  ·
    intro ac wx hE hP hsz hdf h
    obtain ⟨v7, e7, s7⟩ : ∃ v, ac.tmps[7]? = some v ∧ (NewOne B0 (-1) v wx) := h 7 (by decide +kernel)
    have e13 : ac.tmps[13]? = some (.int .i64 ((2 * G : Nat) : Int)) := by obtain ⟨v, h1, h2⟩ := h 13 (by decide +kernel); rw [h1]; exact congrArg some h2
    clear h hsz hdf
    obtain ⟨vb, rfl, hb1, hb2⟩ := s7; have hsz := hE.size
    go_wp2_with ((go_at_call 59; refine (intsRepeat (-1) (some ⟨vb, 0, none⟩) (2 * G) (by have := HG9.out; omega) wx (by have := Blk.rd (n := 1) (size := 1) hb1 0 (by simp); simpa using this)).mono ?_; rintro e w2 ⟨v2, rfl, hown2, hx2⟩; rw [List.length_replicate] at hown2; obtain ⟨A2, c2, rfl, _, _, _⟩ := own_rd hown2))
    exact ⟨_, rfl, ⟨A2, c2, rfl, own_base hown2 (by have := HB0.out; omega)⟩, .of_ext hx2⟩
  ·
    intro ac wx hE hP hsz hdf h
    have e6 : ac.tmps[6]? = some (.int .i64 pos) := by obtain ⟨v, h1, h2⟩ := h 6 (by decide +kernel); rw [h1]; exact congrArg some h2
    obtain ⟨v14, e14, s14⟩ : ∃ v, ac.tmps[14]? = some v ∧ (NewCp B0 (2 * G) (-1) v wx) := h 14 (by decide +kernel)
    clear h hsz hdf
    obtain ⟨A, c, rfl, hc⟩ := s14
    go_wp2
    exact ⟨_, rfl, ⟨A, c, rfl, hc⟩, Chg.refl _ _⟩
  ·
    intro ac wx hE hP hsz hdf h
    have e2 : ac.tmps[2]? = some (.pointer (some ⟨gr, 0, none⟩)) := by obtain ⟨v, h1, h2⟩ := h 2 (by decide +kernel); rw [h1]; exact congrArg some h2
    obtain ⟨v15, e15, s15⟩ : ∃ v, ac.tmps[15]? = some v ∧ (NewWy B0 (2 * G) (-1) pos v wx) := h 15 (by decide +kernel)
    clear h hsz hdf
    obtain ⟨A, c, rfl, hc⟩ := s15; have hrun := hP.2.2.1 rfl
    go_wp2_with ((go_at_call 58; rw [← HGR.out]; refine (smFollow R HR.out pos turn ht0 ht1 (un R.c s) (by rw [← HG.out] at *; exact HF.out) (Nat.le_refl _) pos (.slice A (2 * G) c) v0 cs W sv wx HS.out HLE.out (by unfold CapV; rw [HG.out, List.length_replicate]; exact own_base hc (by have := HM.out.blk.lt; have := HB0.out; omega)) (by simp) HBD.out hrun).mono ?_; rintro e w2 ⟨rfl, hres⟩))
    exact ⟨_, rfl, hres.from ⟨by rw [HX0.out]; exact hE, fun _ h => .inl h⟩, by have := hres; obtain ⟨v9, c9, sv9, _, _, _, h4⟩ := this; have h5 := h4.ch; rw [HX0.out] at h5; exact h5⟩
  · intro ac w9 hE hsz hdf h hrest
    obtain ⟨v0, s0, g0⟩ := h 0 _ rfl
    have e0 := g0 2 rfl
    obtain rfl : v0 = .pointer (some ⟨gr, 0, none⟩) := s0
    obtain ⟨v1, s1, g1⟩ := h 1 _ rfl
    have e1 := g1 3 rfl
    obtain rfl : v1 = .pointer (some ⟨gr, 0, none⟩) := s1
    obtain ⟨v2, s2, g2⟩ := h 2 _ rfl
    have e2 := g2 4 rfl
    obtain rfl : v2 = .pointer (some ⟨gr, 0, none⟩) := s2
    obtain ⟨v3, s3, g3⟩ := h 3 _ rfl
    have e3 := g3 5 rfl
    obtain rfl : v3 = .pointer (some ⟨gr, 2, none⟩) := s3
    obtain ⟨v4, s4, g4⟩ := h 4 _ rfl
    have e4 := g4 6 rfl
    obtain rfl : v4 = .int .i64 pos := s4
    obtain ⟨v5, s5, g5⟩ := h 5 _ rfl
    have e5 := g5 7 rfl
    replace s5 : NewOne B0 (-1) v5 w9 := s5
    obtain ⟨v6, s6, g6⟩ := h 6 _ rfl
    have e6 := g6 8 rfl
    obtain rfl : v6 = .pointer (some ⟨gr, 0, none⟩) := s6
    obtain ⟨v7, s7, g7⟩ := h 7 _ rfl
    have e7 := g7 9 rfl
    obtain rfl : v7 = .pointer (some ⟨gr, 0, none⟩) := s7
    obtain ⟨v8, s8, g8⟩ := h 8 _ rfl
    have e8 := g8 10 rfl
    obtain rfl : v8 = .pointer (some ⟨gr, 0, none⟩) := s8
    obtain ⟨v9, s9, g9⟩ := h 9 _ rfl
    have e9 := g9 11 rfl
    obtain rfl : v9 = .pointer (some ⟨gr, 1, none⟩) := s9
    obtain ⟨v10, s10, g10⟩ := h 10 _ rfl
    have e10 := g10 12 rfl
    obtain rfl : v10 = .int .i64 (G : Nat) := s10
    obtain ⟨v11, s11, g11⟩ := h 11 _ rfl
    have e11 := g11 13 rfl
    obtain rfl : v11 = .int .i64 ((2 * G : Nat) : Int) := s11
    obtain ⟨v12, s12, g12⟩ := h 12 _ rfl
    have e12 := g12 14 rfl
    replace s12 : NewCp B0 (2 * G) (-1) v12 w9 := s12
    obtain ⟨v13, s13, g13⟩ := h 13 _ rfl
    have e13 := g13 15 rfl
    replace s13 : NewWy B0 (2 * G) (-1) pos v13 w9 := s13
    obtain ⟨v14, s14, g14⟩ := h 14 _ rfl
    have e14 := g14 16 rfl
    replace s14 : FolR R pos turn w0 v0 s' (W ++ L.map fun e => (e.1, pos, e.2)) w9 := s14
    have ha := act_of [(2, .pointer (some ⟨gr, 0, none⟩)), (3, .pointer (some ⟨gr, 0, none⟩)), (4, .pointer (some ⟨gr, 0, none⟩)), (5, .pointer (some ⟨gr, 2, none⟩)), (6, .int .i64 pos), (7, v5), (8, .pointer (some ⟨gr, 0, none⟩)), (9, .pointer (some ⟨gr, 0, none⟩)), (10, .pointer (some ⟨gr, 0, none⟩)), (11, .pointer (some ⟨gr, 1, none⟩)), (12, .int .i64 (G : Nat)), (13, .int .i64 ((2 * G : Nat) : Int)), (14, v12), (15, v13), (16, v14)] rfl hsz hdf (by intro p hp; simp only [List.mem_cons, List.not_mem_nil, or_false] at hp; rcases hp with rfl | rfl | rfl | rfl | rfl | rfl | rfl | rfl | rfl | rfl | rfl | rfl | rfl | rfl | rfl <;> first | exact e0 | exact e1 | exact e2 | exact e3 | exact e4 | exact e5 | exact e6 | exact e7 | exact e8 | exact e9 | exact e10 | exact e11 | exact e12 | exact e13 | exact e14) hrest
    clear h hrest hsz hdf e0 e1 e2 e3 e4 e5 e6 e7 e8 e9 e10 e11 e12 e13 e14 g0 g1 g2 g3 g4 g5 g6 g7 g8 g9 g10 g11 g12 g13 g14
    subst ha
    simp only [List.foldl_cons, List.foldl_nil, Act.put, List.setIfInBounds_toArray, List.set_cons_succ, List.set_cons_zero]
    go_end0
    exact ⟨rfl, s14⟩
end Go.Proofs.YtdhmfgaiomfodaaDoor
namespace Go.Proofs.YtdhmfgaiomfodaaDoor
open Go Go.RowKit
attribute [local irreducible] wd

theorem hit_size : (Tryd.prog.info? 54).map (·.size) = some 2 := by kernel_rfl
theorem store_hit {w : World} {ops : Array Oper} {rest : List Oper} {o : Oper} {a : Act} {Q : Exit → Act → World → Prop} (hgd : o.guard = none) (x y : Operand) (ho : o.op = .store 54 x y)
    {g : Nat} {old : List Value} (new : List Value) (hx : a.eval x = .pointer (some ⟨g, 0, none⟩)) (hy : a.eval y = .agg new.toArray) (hg : Blk w g 54 old) (h8 : old.length = 2) (n8 : new.length = 2) (h1 : new.all (·.oneCell') = true)
    (h : wpList Tryd.prog ops Q rest (a.put o.dst undef) (w.setRow g new.toArray)) : wpList Tryd.prog ops Q (o :: rest) a w :=
  wpList_store_row hgd _ x y ho g new.toArray hx hy _ old.toArray hg (by rw [List.size_toArray, n8]; exact hit_size) (by rw [List.size_toArray, List.size_toArray, h8, n8]) (by simpa using h1) h
theorem load_hit {g : Nat} {cs : List Value} {w : World} (hg : Blk w g 54 cs) (h8 : cs.length = 2) : (loadVar 54 ⟨g, 0, none⟩).run Tryd.prog w = .ok (.agg cs.toArray) w :=
  run_loadVar_row w g _ _ cs.toArray (0, 0) _ hg Tryd.underlying54 rfl (by rw [List.size_toArray, h8]; exact hit_size)
theorem results_hit2 {fn : Func} {p a : Tmp} (h : fn.results = #[.cell p 54, .tmp a]) {tmps : Array Value} {w : World} {g : Nat} {cs : List Value} {va : Value}
    (hp : tmps.getD p undef = .pointer (some ⟨g, 0, none⟩)) (hg : Blk w g 54 cs) (h8 : cs.length = 2) (ha : tmps.getD a undef = va) : (results fn tmps).run Tryd.prog w = .ok (.tuple #[.agg cs.toArray, va]) w := by
  have hp' : tmps[p]?.getD undef = .pointer (some ⟨g, 0, none⟩) := by simpa using hp
  have hl := load_hit hg h8
  subst ha
  simp [results, h, hp', asAddr, hl]

/-- What Hit answers. -/
def HitAns (c : List Ins) (pos : Int) (W : List Way) (w : World) (e : Ending) (w' : World) : Prop :=
  match W.findSome? (F3 c [] pos) with
  | none => e = .returned (.tuple #[.agg #[.int .i64 0, .slice none 0 0], .bool false]) ∧ Ext w w'
  | some x => ∃ A cc, e = .returned (.tuple #[.agg #[.int .i64 x.1, .slice A x.2.length cc], .bool true]) ∧ w'.ownsRow w.heap.size 3 1 (.slice A x.2.length cc) x.2.length (intsV x.2) ∧ Ext w w'
def NewCl (b : Nat) (l : List Int) (v : Value) (w : World) : Prop := ∃ A c, v = .slice A l.length c ∧ w.ownsRow b 3 1 v l.length (intsV l)
def NewHt (b : Nat) (f : Int) (l : List Int) (v : Value) (w : World) : Prop := ∃ A c, v = .agg #[.int .i64 f, .slice A l.length c] ∧ w.ownsRow b 3 1 (.slice A l.length c) l.length (intsV l)
def NewHb (b gh : Nat) (f : Int) (l : List Int) (w : World) : Prop := ∃ A c, Blk w gh 54 [.int .i64 f, .slice A l.length c] ∧ w.ownsRow b 3 1 (.slice A l.length c) l.length (intsV l)
theorem f3_nil {c : List Ins} {pos : Int} {a : Way} {i : Ins} (h : c[a.1]? = some i) : F3 c [] pos a = if i.op = 5 then some (a.2.1, a.2.2) else none := by
  unfold F3 res
  dsimp only
  rw [h]
  dsimp only
  split <;> rfl
theorem find_take {α β : Type} {F : α → Option β} {L : List α} {j : Nat} {a : α} (h : L[j]? = some a) (hn : (L.take j).findSome? F = none) : (L.take (j + 1)).findSome? F = F a ∧ (∀ x, F a = some x → L.findSome? F = some x) := by
  have e : L.take (j + 1) = L.take j ++ [a] := by
    rw [List.take_add_one, h]; rfl
  have e1 : (L.take (j + 1)).findSome? F = F a := by
    rw [e, List.findSome?_append, hn]
    simp [List.findSome?_cons]
    cases F a <;> rfl
  refine ⟨e1, fun x hx => ?_⟩
  have e2 : L = L.take (j + 1) ++ L.drop (j + 1) := (List.take_append_drop _ _).symm
  rw [e2, List.findSome?_append, e1, hx]
  rfl

set_option maxHeartbeats 4000000 in
set_option maxRecDepth 20000 in
theorem smHit (R : RS) (hR : RightC R.c R.G) (pos turn : Int) (v0 : Value) (cs : List Value) (W : List Way) (sv : List Int) (w0 : World) (hB : W.length ≤ 1000) (hlt : ∀ a ∈ W, a.1 < R.c.length ∧ a.2.2.length ≤ 1000000) (hM : RunM R w0 pos v0 cs W sv turn) :
    Calls Tryd.prog 33 #[.pointer (some ⟨R.gr, 0, none⟩)] w0 fun e w' => HitAns R.c pos W w0 e w' := by
  have hx0 := Ext.new1 w0 (.cells #[.int .i64 0, .slice none 0 0] 54)
  have HX0 := Lib.hid hx0
  have HM := Lib.hid (hM.keep hx0)
  obtain ⟨gh, hgh⟩ : ∃ gh, w0.heap.size = gh := ⟨_, rfl⟩
  have HH := Lib.hid (Blk.newA (w := w0) hgh 54 [.int .i64 0, .slice none 0 0])
  have HGH := Lib.hid hgh
  obtain ⟨A', c', rfl, hc1, hc2, hrd⟩ := hM.sh
  have HRD := Lib.hid (hrd.keep hx0)
  have HLT := Lib.hid hlt
  have HBD := Lib.hid hB
  have HR := Lib.hid hR
  have HM0 := Lib.hid hM
  have HLO := Lib.hid (show R.gr < gh by have := hM.blk.lt; omega)
  obtain ⟨n, hn⟩ : ∃ n, W.length = n := ⟨_, rfl⟩
  have HN := Lib.hid hn
  clear hx0 hgh hc1 hc2 hrd hlt hB hM hR
  have b3 := HM.out.blk.cell 3
  rw [hn] at b3
  clear hn
  go_enter Tryd.func33, Tryd.ntmps33
  go_upto_region 1 with fail
  rw [HGH.out]
  generalize w0.alloc (.cells _ 54) = wa at *
  go_wp2
  go_loopg [11] n (fun g iv wr => ∃ j : Nat, j ≤ n ∧ g = n - j ∧ iv = .int .i64 (j : Nat) ∧ (W.take j).findSome? (F3 R.c [] pos) = none ∧ Ext wa wr)
  case atStart => exact ⟨0, by omega, rfl, rfl, rfl, Ext.refl _⟩
  case round =>
    obtain ⟨j, hj, rfl, rfl, hno, hx⟩ := hrel
    have HNO := Lib.hid hno
    have HX := Lib.hid hx
    clear hno hx
    by_cases hjn : j < n
    · obtain ⟨wy, hwy⟩ : ∃ wy, W[j]? = some wy := ⟨_, List.getElem?_eq_getElem (by have := HN.out; omega)⟩
      obtain ⟨pc, from_, caps⟩ := wy
      obtain ⟨cv, hcv, d0, d1, d2⟩ := (HM.out.keep HX.out).ways.get hwy
      obtain ⟨AC, cC, rfl, hc1, hc2, hrdc⟩ := own_ints_rd hcv
      obtain ⟨bW, oW, rfl, _, hcell⟩ := (HRD.out.keep HX.out).2 (by have := HM.out.ways.len; have := HN.out; omega)
      have k0 : wr.cell? ⟨bW, oW + j * 3, none⟩ = some (.int .i64 (pc : Nat)) := hcell _ _ d0
      have k1 : wr.cell? ⟨bW, oW + j * 3 + 1, none⟩ = some (.int .i64 from_) := hcell _ _ d1
      have k2 : wr.cell? ⟨bW, oW + j * 3 + 2, none⟩ = some (.slice AC caps.length cC) := hcell _ _ d2
      have HMEM := Lib.hid (List.mem_of_getElem? hwy)
      have HWY := Lib.hid hwy
      have HRC := Lib.hid hrdc
      have hlt' : (j : Int) < (n : Int) := by omega
      have hw2 : IntKind.i64.wrap ((j : Int) + 1) = (j : Int) + 1 := wrap_id (by omega) (by have := HBD.out; have := HN.out; omega)
      have HJN := Lib.hid hjn
      have HW2 := Lib.hid hw2
      have HCV := Lib.hid (show cs[j * 3 + 2]? = some (.slice AC caps.length cC) from d2)
      clear hcv d0 d1 d2 hc1 hc2 hcell hwy hrdc hjn hj hw2
      have HAC := Lib.hid (show ∀ b o x, AC = some ⟨b, o, x⟩ → b < gh from fun b o x e => by
        obtain ⟨cv', hcv', _, _, e2⟩ := HM0.out.ways.get HWY.out
        have e4 := HCV.out
        rw [e4] at e2
        cases e2
        subst e
        have := (hcv'.lt b rfl).2
        have := HGH.out
        omega)
      go_upto_region 4 with fail
      have hal := Ext.new1 wr (.cells #[.int .i64 (pc : Nat), .int .i64 from_, .slice AC caps.length cC] 113)
      obtain ⟨gw, hgw⟩ : ∃ gw, wr.heap.size = gw := ⟨_, rfl⟩
      have HXB := Lib.hid (Ext.trans HX.out hal)
      have HWB := Lib.hid (Blk.newA (w := wr) hgw 113 [.int .i64 (pc : Nat), .int .i64 from_, .slice AC caps.length cC])
      have HRB := Lib.hid (show Rd (wr.alloc (.cells #[.int .i64 (pc : Nat), .int .i64 from_, .slice AC caps.length cC] 113)) 1 AC caps.length (intsV caps) from HRC.out.keep hal)
      have HGW := Lib.hid (show gh < gw by have := Blk.lt HH.out; have := HX.out.size; omega)
      clear hal HRC k0 k1 k2
      rw [hgw]
      clear hgw
      generalize wr.alloc (.cells _ 113) = wb at *
      obtain ⟨i, hi⟩ : ∃ i, R.c[pc]? = some i := ⟨_, List.getElem?_eq_getElem (HLT.out _ HMEM.out).1⟩
      obtain ⟨bA, oA, hA, hcell⟩ := code_cells (HM.out.keep HXB.out).code hi
      have hHM := HM.out.keep HXB.out
      obtain ⟨N, hNN⟩ : ∃ N, R.c.length = N := ⟨_, rfl⟩
      have b0 : wb.cell? ⟨R.gr, 0, none⟩ = some (.slice (some ⟨bA, oA, none⟩) N R.cc) := by rw [← hNN, ← hA]; exact hHM.blk.cell 0
      have y0 : wb.cell? ⟨gw, 0, none⟩ = some (.int .i64 (pc : Nat)) := HWB.out.cell 0
      have c0 : wb.cell? ⟨bA, oA + pc * 8, none⟩ = some (.int .i64 i.op) := hcell 0 _ rfl
      have hpl : (pc : Int) < (N : Int) := by have := (HLT.out _ HMEM.out).1; dsimp only at this; omega
      have HI := Lib.hid hi
      clear hcell hHM hA hi hNN
      go_quiet (fail)
      have hxq : Ext wb (wb.drewN nq) := below_drewN (Ext.refl _) nq
      have HXC := Lib.hid (Ext.trans HXB.out hxq)
      have HWC := Lib.hid (HWB.out.keep hxq)
      have HRC := Lib.hid (HRB.out.keep hxq)
      clear hxq b0 y0 c0 hpl HXB HWB HRB
      generalize wb.drewN nq = wc at *
      by_cases ho : i.op = 5
      · have HF := Lib.hid (show W.findSome? (F3 R.c [] pos) = some (from_, caps) from (find_take HWY.out HNO.out).2 _ (by rw [f3_nil (a := (pc, from_, caps)) HI.out, if_pos ho]))
        have ho5 : (i.op == 5) = true := beq_iff_eq.2 ho
        have HHC := Lib.hid (HH.out.keep HXC.out)
        have HCL := Lib.hid (show caps.length ≤ 1000000 from (HLT.out _ HMEM.out).2)
        clear ho
        go_upto_region 5 with fail
        refine wp_region_dagQ (X := fun j => if j = 6 then [gh] else []) (XX := ([gh])) (late := fun j => if j = 6 then [] else []) (Pre := fun i w => (i = 6 → Blk w gh 54 [.int .i64 0, .slice none 0 0]) ∧ True) (w0 := wc) (Φ := fun i v w => match i with | 0 => (v = .pointer (some ⟨gw, 1, none⟩)) | 1 => (v = .int .i64 from_) | 2 => (v = .pointer (some ⟨gw, 2, none⟩)) | 3 => (v = .slice AC caps.length cC) | 4 => (NewCl (gh + 1) caps v w) | 5 => (NewHt (gh + 1) from_ caps v w) | 6 => (NewHb (gh + 1) gh from_ caps w) | 7 => (v = Value.bool true) | _ => True) (show Tryd.prog.follows .mixedOrders = true from Checked.mixed Tryd.checked) 34 rfl (by decide +kernel) ?_ ?_ ?_ ?_ ?_ ⟨?_, ?_, ?_, ?_, ?_, ?_, ?_, ?_, trivial⟩ ?_
        · intro j x hx
          by_cases hj6 : j = 6
          · subst hj6; have hx' : x ∈ [gh] := hx; first | exact hx' | (rw [List.mem_append]; first | exact .inl hx' | exact .inr hx')
          simp [hj6] at hx
        · intro j
          by_cases hj6 : j = 6
          · subst hj6; decide +kernel
          simp [hj6, lateOk]
        · intro i
          exact ⟨fun _ => HHC.out.keep ((Below.refl _ _).drew), trivial⟩
        · intro i j w w' hij hnl h hc
          refine ⟨?_, trivial⟩
          · intro hi
            subst hi
            have hp := h.1 rfl
            have hc' : Chg [] w w' := hc.mono (fun x hx => by
              by_cases hj6 : j = 6
              · exact absurd hj6 (by omega)
              simp [hj6] at hx)
            exact hp.keep (hc'.ext (by simp))
        · intro i j v w w' hij hla h hc
          by_cases hj6 : j = 6
          · subst hj6
            have hc' : Chg [gh] w w' := hc
            match i, hij, hla, h with
            | 0, _, _, h => exact h
            | 1, _, _, h => exact h
            | 2, _, _, h => exact h
            | 3, _, _, h => exact h
            | 4, _, _, h => exact (by obtain ⟨A, c, g1, g2⟩ := h; exact ⟨A, c, g1, own_up g2 (by simp) hc'⟩)
            | 5, _, _, h => exact (by obtain ⟨A, c, g1, g2⟩ := h; exact ⟨A, c, g1, own_up g2 (by simp) hc'⟩)
            | 6, hij, _, _ => exact absurd rfl hij
            | 7, _, _, h => exact h
            | _ + 8, _, _, _ => trivial
          have hc0 : Chg [] w w' := by simpa [hj6] using hc
          have hE : Ext w w' := hc0.ext (by simp)
          match i, h with
          | 0, h => exact h
          | 1, h => exact h
          | 2, h => exact h
          | 3, h => exact h
          | 4, h => exact (by obtain ⟨A, c, g1, g2⟩ := h; exact ⟨A, c, g1, own_ext g2 hE⟩)
          | 5, h => exact (by obtain ⟨A, c, g1, g2⟩ := h; exact ⟨A, c, g1, own_ext g2 hE⟩)
          | 6, h => exact (by obtain ⟨A, c, g1, g2⟩ := h; exact ⟨A, c, g1.keep hE, own_ext g2 hE⟩)
          | 7, h => exact h
          | _ + 8, _ => trivial
        ·
          intro ac wx hE hP hsz hdf h
          have e5 : ac.tmps[5]? = some (.pointer (some ⟨gw, 0, none⟩)) := by obtain ⟨v, h1, h2⟩ := h 5 (by decide +kernel); exact h1.trans (h2.symm.trans rfl)
          clear h hsz hdf
          go_wp2
          exact ⟨_, rfl, rfl, Chg.refl _ _⟩
        ·
          intro ac wx hE hP hsz hdf h
          have e26 : ac.tmps[26]? = some (.pointer (some ⟨gw, 1, none⟩)) := by obtain ⟨v, h1, h2⟩ := h 26 (by decide +kernel); rw [h1]; exact congrArg some h2
          clear h hsz hdf
          have y := (HWC.out.chg hE (by have := HGW.out; simp; omega)).cell 1
          go_wp2
          exact ⟨_, rfl, rfl, Chg.refl _ _⟩
        ·
          intro ac wx hE hP hsz hdf h
          have e5 : ac.tmps[5]? = some (.pointer (some ⟨gw, 0, none⟩)) := by obtain ⟨v, h1, h2⟩ := h 5 (by decide +kernel); exact h1.trans (h2.symm.trans rfl)
          clear h hsz hdf
          go_wp2
          exact ⟨_, rfl, rfl, Chg.refl _ _⟩
        ·
          intro ac wx hE hP hsz hdf h
          have e28 : ac.tmps[28]? = some (.pointer (some ⟨gw, 2, none⟩)) := by obtain ⟨v, h1, h2⟩ := h 28 (by decide +kernel); rw [h1]; exact congrArg some h2
          clear h hsz hdf
          have y := (HWC.out.chg hE (by have := HGW.out; simp; omega)).cell 2
          go_wp2
          exact ⟨_, rfl, rfl, Chg.refl _ _⟩
        ·
          intro ac wx hE hP hsz hdf h
          have e29 : ac.tmps[29]? = some (.slice AC caps.length cC) := by obtain ⟨v, h1, h2⟩ := h 29 (by decide +kernel); rw [h1]; exact congrArg some h2
          clear h hsz hdf
          go_wp2_with ((go_at_call 60; refine (intsClone caps AC caps.length cC wx (HRC.out.chg hE (fun _ b o x e hm => by have := HAC.out b o x e; simp at hm; omega)) HCL.out).mono ?_; rintro e w2 ⟨v2, rfl, hown2, hx2⟩; obtain ⟨A2, c2, rfl, _, _, _⟩ := own_rd hown2))
          exact ⟨_, rfl, ⟨A2, c2, rfl, own_base hown2 (by have := (HHC.out.lt); have := hE.size; omega)⟩, .of_ext hx2⟩
        ·
          intro ac wx hE hP hsz hdf h
          have e27 : ac.tmps[27]? = some (.int .i64 from_) := by obtain ⟨v, h1, h2⟩ := h 27 (by decide +kernel); rw [h1]; exact congrArg some h2
          obtain ⟨v30, e30, s30⟩ : ∃ v, ac.tmps[30]? = some v ∧ (NewCl (gh + 1) caps v wx) := h 30 (by decide +kernel)
          clear h hsz hdf
          obtain ⟨A, c, rfl, hc⟩ := s30
          go_wp2
          exact ⟨_, rfl, ⟨A, c, rfl, hc⟩, Chg.refl _ _⟩
        ·
          intro ac wx hE hP hsz hdf h
          have e2 : ac.tmps[2]? = some (.pointer (some ⟨gh, 0, none⟩)) := by obtain ⟨v, h1, h2⟩ := h 2 (by decide +kernel); exact h1.trans (h2.symm.trans rfl)
          obtain ⟨v31, e31, s31⟩ : ∃ v, ac.tmps[31]? = some v ∧ (NewHt (gh + 1) from_ caps v wx) := h 31 (by decide +kernel)
          clear h hsz hdf
          obtain ⟨A, c, rfl, hc⟩ := s31; have hb := hP.1 rfl
          go_wp2_with ((refine store_hit rfl (.tmp 2) (.tmp 31) rfl (g := gh) [.int .i64 from_, .slice A caps.length c] (by simp [Act.eval, e2]) (by simp [Act.eval, e31]) hb rfl rfl rfl ?_))
          exact ⟨⟨A, c, Blk.row hb _, own_up (X := [gh]) hc (fun x hx => by simp at hx; omega) (rowChg _ _ _ (by simp))⟩, rowChg _ _ _ (by simp)⟩
        ·
          intro ac wx hE hP hsz hdf h
          clear h hsz hdf
          go_wp2
          exact ⟨_, rfl, rfl, Chg.refl _ _⟩
        · intro ac w9 hE hsz hdf h hrest
          obtain ⟨v0, s0, g0⟩ := h 0 _ rfl
          have e0 := g0 26 rfl
          obtain rfl : v0 = .pointer (some ⟨gw, 1, none⟩) := s0
          obtain ⟨v1, s1, g1⟩ := h 1 _ rfl
          have e1 := g1 27 rfl
          obtain rfl : v1 = .int .i64 from_ := s1
          obtain ⟨v2, s2, g2⟩ := h 2 _ rfl
          have e2 := g2 28 rfl
          obtain rfl : v2 = .pointer (some ⟨gw, 2, none⟩) := s2
          obtain ⟨v3, s3, g3⟩ := h 3 _ rfl
          have e3 := g3 29 rfl
          obtain rfl : v3 = .slice AC caps.length cC := s3
          obtain ⟨v4, s4, g4⟩ := h 4 _ rfl
          have e4 := g4 30 rfl
          replace s4 : NewCl (gh + 1) caps v4 w9 := s4
          obtain ⟨v5, s5, g5⟩ := h 5 _ rfl
          have e5 := g5 31 rfl
          replace s5 : NewHt (gh + 1) from_ caps v5 w9 := s5
          obtain ⟨v6, s6, -⟩ := h 6 _ rfl
          replace s6 : NewHb (gh + 1) gh from_ caps w9 := s6
          obtain ⟨v7, s7, g7⟩ := h 7 _ rfl
          have e7 := g7 3 rfl
          obtain rfl : v7 = Value.bool true := s7
          have ha := act_of [(26, .pointer (some ⟨gw, 1, none⟩)), (27, .int .i64 from_), (28, .pointer (some ⟨gw, 2, none⟩)), (29, .slice AC caps.length cC), (30, v4), (31, v5), (3, Value.bool true)] rfl hsz hdf (by intro p hp; simp only [List.mem_cons, List.not_mem_nil, or_false] at hp; rcases hp with rfl | rfl | rfl | rfl | rfl | rfl | rfl <;> first | exact e0 | exact e1 | exact e2 | exact e3 | exact e4 | exact e5 | exact e7) hrest
          clear h hrest hsz hdf e0 e1 e2 e3 e4 e5 e7 g0 g1 g2 g3 g4 g5 g7
          subst ha
          simp only [List.foldl_cons, List.foldl_nil, Act.put, List.setIfInBounds_toArray, List.set_cons_succ, List.set_cons_zero]
          obtain ⟨A9, c9, hb9, ho9⟩ := s6
          have hX9 : Ext w0 w9 := Chg.below hE (Ext.trans HX0.out HXC.out) ((Ext.trans HX0.out HXC.out).size) (fun x hx => by have := HGH.out; simp at hx; omega)
          have HB9 := Lib.hid hb9
          have HO9 := Lib.hid (own_base ho9 (b' := w0.heap.size) (by have := HGH.out; omega))
          have HX9 := Lib.hid hX9
          clear hb9 ho9 hX9 s4 s5 hE
          go_wp2
          refine bodyPost_ret (v := .tuple #[.agg ([.int .i64 from_, .slice A9 caps.length c9] : List Value).toArray, .bool true]) (results_hit2 rfl rfl HB9.out rfl rfl) rfl ?_
          unfold HitAns
          rw [HF.out]
          exact ⟨A9, c9, rfl, HO9.out, HX9.out⟩
      · have HNX := Lib.hid (show (W.take (j + 1)).findSome? (F3 R.c [] pos) = none by rw [(find_take HWY.out HNO.out).1, f3_nil (a := (pc, from_, caps)) HI.out, if_neg ho])
        have ho5 : (i.op == 5) = false := beq_eq_false_iff_ne.2 ho
        have hw2 := HW2.out
        clear ho
        go_wp2
        go_roundg (n - (j + 1))
        case measure => have := HJN.out; omega
        case rel => exact ⟨j + 1, by have := HJN.out; omega, rfl, by go_num, HNX.out, HXC.out⟩
    · obtain rfl : j = n := by omega
      have hlt' : ¬ (j : Int) < (j : Int) := by omega
      have HHE := Lib.hid (HH.out.keep HX.out)
      have HF := Lib.hid (show W.findSome? (F3 R.c [] pos) = none by have := HNO.out; rwa [List.take_of_length_le (by rw [HN.out]; exact Nat.le_refl _)] at this)
      go_wp2_with (refine store_hit rfl (.tmp 2) (.tmp 33) rfl (g := gh) [.int .i64 0, .slice none 0 0] rfl rfl HHE.out rfl rfl rfl ?_)
      refine bodyPost_ret (v := .tuple #[.agg ([.int .i64 0, .slice none 0 0] : List Value).toArray, .bool false]) (results_hit2 rfl rfl (Blk.row HHE.out _) rfl rfl) rfl ?_
      unfold HitAns
      rw [HF.out]
      exact ⟨rfl, (Ext.trans HX0.out HX.out).rowX _ _ (by have := HGH.out; omega)⟩
end Go.Proofs.YtdhmfgaiomfodaaDoor
namespace Go.Proofs.YtdhmfgaiomfodaaDoor
open Go Go.RowKit

theorem seq_snoc {c : List Ins} {pos : Int} {s s1 s2 : Nat → Bool} {ws Ws : List Way} {w : Way} {L : List Th} (h : Seq c pos s ws s1 Ws) (hf : Fol c pos s1 w.1 w.2.2 s2 L) : Seq c pos s (ws ++ [w]) s2 (Ws ++ L.map fun e => (e.1, w.2.1, e.2)) := by
  induction h with
  | nil => simpa using Seq.cons hf Seq.nil
  | cons h1 _ ih => rw [List.cons_append, List.append_assoc]; exact .cons h1 (ih hf)
theorem moves_snoc (c : List Ins) (b : UInt8) {W : List Way} {j : Nat} {a : Way} {i : Ins} (h : W[j]? = some a) (hi : c[a.1]? = some i) : moves c b (W.take (j + 1)) = moves c b (W.take j) ++ if i.op = 1 ∧ i.set b.toNat = true then [(a.1 + 1, a.2)] else [] := by
  have e : W.take (j + 1) = W.take j ++ [a] := by rw [List.take_add_one, h]; rfl
  unfold moves
  rw [e, List.filterMap_append]
  congr 1
  simp only [List.filterMap_cons, List.filterMap_nil, hi]
  split
  · rename_i h1
    split at h1
    · cases h1
    · rename_i h2; rw [if_neg h2]
  · rename_i h1
    split at h1
    · rename_i h2; cases h1; rw [if_pos h2]
    · cases h1
/-- Ways that stand within the program, with so many captures. -/
def WaysOK (c : List Ins) (G : Nat) (W : List Way) : Prop := ∀ a ∈ W, a.1 < c.length ∧ a.2.2.length = 2 * G
theorem fol_ok {c : List Ins} {pos : Int} {s s' : Nat → Bool} {pc : Nat} {caps : List Int} {L : List Th} (h : Fol c pos s pc caps s' L) : ∀ e ∈ L, e.1 < c.length ∧ e.2.length = caps.length := by
  induction h with
  | seen _ => intro e he; cases he
  | jump _ _ _ _ ih => exact ih
  | split _ _ _ _ _ ih1 ih2 => intro e he; rcases List.mem_append.1 he with he | he; exact ih1 e he; exact ih2 e he
  | save _ _ _ _ ih => intro e he; have := ih e he; rwa [List.length_set] at this
  | stand _ hi _ _ _ => intro e he; simp at he; subst he; exact ⟨(List.getElem?_eq_some_iff.1 hi).1, rfl⟩
theorem WaysOK.app {c : List Ins} {G : Nat} {W : List Way} (h : WaysOK c G W) {pos : Int} {s s' : Nat → Bool} {pc : Nat} {caps : List Int} {L : List Th} (hf : Fol c pos s pc caps s' L) (hl : caps.length = 2 * G) (f : Int) : WaysOK c G (W ++ L.map fun e => (e.1, f, e.2)) := by
  intro a ha
  rcases List.mem_append.1 ha with ha | ha
  · exact h a ha
  · obtain ⟨e, he, rfl⟩ := List.mem_map.1 ha
    have := fol_ok hf e he
    exact ⟨this.1, this.2.trans hl⟩
/-- A way goes on. -/
theorem fol_ex {c : List Ins} (hc : Closed c) (pos : Int) (s : Nat → Bool) {pc : Nat} (caps : List Int) (h : pc < c.length) : ∃ s' L, Fol c pos s pc caps s' L :=
  ⟨_, _, folF_ok hc pos (c.length + 1) s pc caps h (by have := un_le c s; omega)⟩
end Go.Proofs.YtdhmfgaiomfodaaDoor
namespace Go.Proofs.YtdhmfgaiomfodaaDoor
open Go Go.RowKit
attribute [local irreducible] wd

/-- What a byte's step leaves. -/
def StepR (R : RS) (pos turn : Int) (w : World) (v : Value) (W : List Way) (b : UInt8) (w' : World) : Prop :=
  ∃ v' cs' W2 sv' s2, RunM R w' (pos + 1) v' cs' W2 sv' (turn + 1) ∧ seenB sv' (turn + 1) = s2 ∧ (∀ x ∈ sv', x ≤ turn + 1) ∧ Seq R.c (pos + 1) none0 (moves R.c b W) s2 W2 ∧ WaysOK R.c R.G W2 ∧ W2.length + un R.c s2 ≤ R.c.length ∧ RN R w v w' v'

/-- While a byte's step goes on: so many of the ways have moved. -/
def StepJ (R : RS) (pos turn : Int) (w3 : World) (W : List Way) (b : UInt8) (j : Nat) (wr : World) : Prop :=
  ∃ v' cs' W2 sv' s2, RunM R wr (pos + 1) v' cs' W2 sv' (turn + 1) ∧ seenB sv' (turn + 1) = s2 ∧ (∀ x ∈ sv', x ≤ turn + 1) ∧ Seq R.c (pos + 1) none0 (moves R.c b (W.take j)) s2 W2 ∧ WaysOK R.c R.G W2 ∧ W2.length + un R.c s2 ≤ R.c.length ∧ RN R w3 (.slice none 0 0) wr v'

set_option maxHeartbeats 4000000 in
set_option maxRecDepth 20000 in
theorem smStep (R : RS) (hR : RightC R.c R.G) (pos turn : Int) (hp0 : 0 ≤ pos) (hp1 : pos ≤ 2000000000000) (ht0 : 0 ≤ turn) (ht1 : turn ≤ 100000) (v : Value) (cs : List Value) (W : List Way) (sv : List Int) (w0 : World) (b : UInt8)
    (hle : ∀ x ∈ sv, x ≤ turn) (hB : W.length ≤ 1000) (hok : WaysOK R.c R.G W) (hM : RunM R w0 pos v cs W sv turn) :
    Calls Tryd.prog 36 #[.pointer (some ⟨R.gr, 0, none⟩), .int .u8 (b.toNat : Nat)] w0 fun e w' => e = .returned (.tuple #[]) ∧ StepR R pos turn w0 v W b w' := by
  have HM := Lib.hid hM
  have HR := Lib.hid hR
  have HLE := Lib.hid hle
  have HBD := Lib.hid hB
  have HOK := Lib.hid hok
  obtain ⟨A', c', rfl, hc1, hc2, hrd⟩ := hM.sh
  have HRD := Lib.hid hrd
  obtain ⟨n, hn⟩ : ∃ n, W.length = n := ⟨_, rfl⟩
  have HN := Lib.hid hn
  have hwp : IntKind.i64.wrap (pos + 1) = pos + 1 := wrap_id (by omega) (by omega)
  have hwt : IntKind.i64.wrap (turn + 1) = turn + 1 := wrap_id (by omega) (by omega)
  have hblk := hM.blk
  rw [hn] at hblk ⊢
  obtain ⟨gr, hgr⟩ : ∃ gr, R.gr = gr := ⟨_, rfl⟩
  have HGR := Lib.hid hgr
  rw [hgr] at hblk ⊢
  have b3 : w0.cell? ⟨gr, 3, none⟩ = some (.slice A' n c') := hblk.cell 3
  have b2 : w0.cell? ⟨gr, 2, none⟩ = some (.int .i64 pos) := hblk.cell 2
  have b5 : w0.cell? ⟨gr, 5, none⟩ = some (.int .i64 turn) := hblk.cell 5
  have f2 := hblk.frozen 2
  have f3 := hblk.frozen 3
  have f5 := hblk.frozen 5
  clear hM hR hle hB hok hrd hc1 hc2 hn hblk hgr
  go_enter Tryd.func36, Tryd.ntmps36
  go_wp2
  have hc : Chg [gr] w0 (((w0.setCell ⟨gr, 3, none⟩ (.slice none 0 0)).setCell ⟨gr, 2, none⟩ (.int .i64 (pos + 1))).setCell ⟨gr, 5, none⟩ (.int .i64 (turn + 1))) :=
    (((Chg.refl _ _).setCell (p := ⟨gr, 3, none⟩) (by simp) _).setCell (p := ⟨gr, 2, none⟩) (by simp) _).setCell (p := ⟨gr, 5, none⟩) (by simp) _
  have hord := HM.out.ord
  have HC0 := Lib.hid hc
  have HRUN := Lib.hid (show RunM R (((w0.setCell ⟨gr, 3, none⟩ (.slice none 0 0)).setCell ⟨gr, 2, none⟩ (.int .i64 (pos + 1))).setCell ⟨gr, 5, none⟩ (.int .i64 (turn + 1))) (pos + 1) (.slice none 0 0) [] [] sv (turn + 1) from by
    have hb := HM.out.blk
    rw [HGR.out] at hb
    refine ⟨?_, HM.out.code.chg hc (fun _ b o x e hm => by have := HM.out.low b o x e; have := HGR.out; simp at hm; omega), HM.out.low, HM.out.ord, HM.out.seen.chg hc (by have := HGR.out; simp; omega), HM.out.len, World.ownsRow_nil _ _ _ _, rfl⟩
    rw [HGR.out]
    have := ((hb.set_ 3 (.slice none 0 0)).set_ 2 (.int .i64 (pos + 1))).set_ 5 (.int .i64 (turn + 1))
    exact this)
  have HRD3 := Lib.hid (HRD.out.chg hc (fun _ b o x e hm => by
    have h := HM.out.own
    rw [e] at h
    have := (h.lt b rfl).1
    have := HGR.out
    simp at hm
    omega))
  have HAX := Lib.hid (show ∀ b o x, A' = some ⟨b, o, x⟩ → b ∉ [R.gr, R.gs] from fun b o x e hm => by
    have h := HM.out.own
    rw [e] at h
    have := (h.lt b rfl).1
    simp at hm
    omega)
  have HWV := Lib.hid (show WaysV R.gr (((w0.setCell ⟨gr, 3, none⟩ (.slice none 0 0)).setCell ⟨gr, 2, none⟩ (.int .i64 (pos + 1))).setCell ⟨gr, 5, none⟩ (.int .i64 (turn + 1))) W cs from HM.out.ways.map fun cv l hq => own_up (X := [gr]) hq (fun x hx => by have := HGR.out; simp at hx; omega) hc)
  clear hc hord b2 b3 b5 f2 f3 f5 HRD hwp hwt
  generalize ((w0.setCell ⟨gr, 3, none⟩ (.slice none 0 0)).setCell ⟨gr, 2, none⟩ (.int .i64 (pos + 1))).setCell ⟨gr, 5, none⟩ (.int .i64 (turn + 1)) = w3 at *
  go_loopg [31] n (fun g iv wr => ∃ j : Nat, j ≤ n ∧ g = n - j ∧ iv = .int .i64 (j : Nat) ∧ StepJ R pos turn w3 W b j wr)
  case atStart => exact ⟨0, by omega, rfl, rfl, .slice none 0 0, [], [], sv, none0, HRUN.out, seenB_new (fun x hx => by have := HLE.out x hx; omega), fun x hx => by have := HLE.out x hx; omega, by unfold moves; rw [List.take_zero]; exact .nil, (fun a ha => by cases ha), by have := un_le R.c none0; simpa using this, RN.refl⟩
  case round =>
    obtain ⟨j, hj, rfl, rfl, hJ⟩ := hrel
    obtain ⟨vj, csj, Wj, svj, sj, hRj, hSj, hLj, hQj, hOj, hUj, hNj⟩ := hJ
    have HRJ := Lib.hid hRj
    have HSJ := Lib.hid hSj
    have HLJ := Lib.hid hLj
    have HQJ := Lib.hid hQj
    have HOJ := Lib.hid hOj
    have HUJ := Lib.hid hUj
    have HNJ := Lib.hid hNj
    clear hRj hSj hLj hQj hOj hUj hNj
    by_cases hjn : j < n
    · have hch : Chg [R.gr, R.gs] w3 wr := HNJ.out.ch
      obtain ⟨wy, hwy⟩ : ∃ wy, W[j]? = some wy := ⟨_, List.getElem?_eq_getElem (by have := HN.out; omega)⟩
      obtain ⟨pc, from_, caps⟩ := wy
      have hord := HM.out.ord
      have hwv : WaysV R.gr wr W cs := HWV.out.map fun cv l hq => own_up (X := [R.gr, R.gs]) hq (fun x hx => by simp at hx; omega) hch
      obtain ⟨cv, hcv, d0, d1, d2⟩ := hwv.get hwy
      obtain ⟨AC, cC, rfl, hc1, hc2, hrdc⟩ := own_ints_rd hcv
      have hrd := HRD3.out.chg hch (fun _ b o x e => HAX.out b o x e)
      obtain ⟨bW, oW, rfl, _, hcell⟩ := hrd.2 (by have := hwv.len; have := HN.out; omega)
      have k0 : wr.cell? ⟨bW, oW + j * 3, none⟩ = some (.int .i64 (pc : Nat)) := hcell _ _ d0
      have k1 : wr.cell? ⟨bW, oW + j * 3 + 1, none⟩ = some (.int .i64 from_) := hcell _ _ d1
      have k2 : wr.cell? ⟨bW, oW + j * 3 + 2, none⟩ = some (.slice AC caps.length cC) := hcell _ _ d2
      have HMEM := Lib.hid (List.mem_of_getElem? hwy)
      have HWY := Lib.hid hwy
      have HCV := Lib.hid (show CapV R.gr wr (.slice AC caps.length cC) caps from hcv)
      have hlt' : (j : Int) < (n : Int) := by omega
      have HW2 := Lib.hid (show IntKind.i64.wrap ((j : Int) + 1) = (j : Int) + 1 from wrap_id (by omega) (by have := HBD.out; have := HN.out; omega))
      have HJN := Lib.hid hjn
      clear hch hord hwv hcv d0 d1 d2 hc1 hc2 hcell hwy hrdc hjn hj hrd
      go_upto_region 7 with fail
      have hal := Ext.new1 wr (.cells #[.int .i64 (pc : Nat), .int .i64 from_, .slice AC caps.length cC] 113)
      obtain ⟨gw, hgw⟩ : ∃ gw, wr.heap.size = gw := ⟨_, rfl⟩
      have HXB := Lib.hid hal
      have HWB := Lib.hid (Blk.newA (w := wr) hgw 113 [.int .i64 (pc : Nat), .int .i64 from_, .slice AC caps.length cC])
      have HRB := Lib.hid (HRJ.out.keep hal)
      have HCB := Lib.hid (show CapV R.gr (wr.alloc (.cells #[.int .i64 (pc : Nat), .int .i64 from_, .slice AC caps.length cC] 113)) (.slice AC caps.length cC) caps from own_ext HCV.out hal)
      have HGW := Lib.hid (show R.gr < gw ∧ ∀ k, vj.ownBlock = some k → k < gw from ⟨by have := HRJ.out.blk.lt; omega, fun k hk => by have := (HRJ.out.own.lt k hk).2; omega⟩)
      clear hal k0 k1 k2 HCV
      rw [hgw]
      clear hgw
      have HSZ := Lib.hid (show wr.heap.size ≤ _ from HXB.out.size)
      generalize wr.alloc (.cells _ 113) = wb at *
      obtain ⟨i, hi⟩ : ∃ i, R.c[pc]? = some i := ⟨_, List.getElem?_eq_getElem (HOK.out _ HMEM.out).1⟩
      obtain ⟨bA, oA, hA, hcell⟩ := code_cells HRB.out.code hi
      obtain ⟨N, hNN⟩ : ∃ N, R.c.length = N := ⟨_, rfl⟩
      have b0 : wb.cell? ⟨gr, 0, none⟩ = some (.slice (some ⟨bA, oA, none⟩) N R.cc) := by rw [← hNN, ← hA, ← HGR.out]; exact HRB.out.blk.cell 0
      have y0 : wb.cell? ⟨gw, 0, none⟩ = some (.int .i64 (pc : Nat)) := HWB.out.cell 0
      have c0 : wb.cell? ⟨bA, oA + pc * 8, none⟩ = some (.int .i64 i.op) := hcell 0 _ rfl
      have c1 : wb.cell? ⟨bA, oA + pc * 8 + 1, none⟩ = some (.int .i64 i.x) := hcell 1 _ rfl
      have c2 : wb.cell? ⟨bA, oA + pc * 8 + 2, none⟩ = some (.int .i64 i.y) := hcell 2 _ rfl
      have c3 : wb.cell? ⟨bA, oA + pc * 8 + 3, none⟩ = some (.int .i64 i.n) := hcell 3 _ rfl
      have c4 : wb.cell? ⟨bA, oA + pc * 8 + 4, none⟩ = some (.int .u64 (wd i.set 0 : Nat)) := hcell 4 _ rfl
      have c5 : wb.cell? ⟨bA, oA + pc * 8 + 5, none⟩ = some (.int .u64 (wd i.set 1 : Nat)) := hcell 5 _ rfl
      have c6 : wb.cell? ⟨bA, oA + pc * 8 + 6, none⟩ = some (.int .u64 (wd i.set 2 : Nat)) := hcell 6 _ rfl
      have c7 : wb.cell? ⟨bA, oA + pc * 8 + 7, none⟩ = some (.int .u64 (wd i.set 3 : Nat)) := hcell 7 _ rfl
      have hpl : (pc : Int) < (N : Int) := by have := (HOK.out _ HMEM.out).1; dsimp only at this; omega
      have hal := (Chg.refl [] wb).alloc (.cells #[.int .i64 0, .int .i64 0, .int .i64 0, .int .i64 0, .int .u64 0, .int .u64 0, .int .u64 0, .int .u64 0] 64)
      have k0 := hal.cell b0 (by simp)
      have k1 := hal.cell y0 (by simp)
      have d0 := hal.cell c0 (by simp)
      have d1 := hal.cell c1 (by simp)
      have d2 := hal.cell c2 (by simp)
      have d3 := hal.cell c3 (by simp)
      have d4 := hal.cell c4 (by simp)
      have d5 := hal.cell c5 (by simp)
      have d6 := hal.cell c6 (by simp)
      have d7 := hal.cell c7 (by simp)
      have HI := Lib.hid hi
      clear hal hcell hA hi hNN
      go_region
      clear k0 k1 d0 d1 d2 d3 d4 d5 d6 d7 c0 c1 c2 c3 c4 c5 c6 c7 b0 y0 hpl
      obtain ⟨gx, hgx⟩ : ∃ gx, wb.heap.size = gx := ⟨_, rfl⟩
      have hxc : Ext wb (wb.alloc (.cells (insV i).toArray 64)).drew := (Ext.new1 _ _).drew
      have HXR := Lib.hid (HRB.out.keep hxc)
      have HXW := Lib.hid (HWB.out.keep hxc)
      have HXC := Lib.hid (show CapV R.gr (wb.alloc (.cells (insV i).toArray 64)).drew (.slice AC caps.length cC) caps from own_ext HCB.out hxc)
      have HXI := Lib.hid (show Blk (wb.alloc (.cells (insV i).toArray 64)).drew gx 64 (insV i) from (Blk.newA (w := wb) hgx 64 (insV i)).keep ((Below.refl _ _).drew))
      have HXN := Lib.hid (show RN R w3 (.slice none 0 0) (wb.alloc (.cells (insV i).toArray 64)).drew vj from HNJ.out.then_ext (Ext.trans HXB.out hxc))
      unfold insV at hxc HXR HXW HXC HXI HXN
      rw [hgx]
      clear hxc HRB HWB HCB HXB HSZ hgx
      generalize (wb.alloc (.cells #[.int .i64 i.op, .int .i64 i.x, .int .i64 i.y, .int .i64 i.n, .int .u64 (wd i.set 0 : Nat), .int .u64 (wd i.set 1 : Nat), .int .u64 (wd i.set 2 : Nat), .int .u64 (wd i.set 3 : Nat)] 64)).drew = wc at *
      have HMV := Lib.hid (moves_snoc R.c b HWY.out HI.out)
      have e0 : wc.cell? ⟨gx, 0, none⟩ = some (.int .i64 i.op) := HXI.out.cell 0
      have e4 : wc.cell? ⟨gx, 4, none⟩ = some (.int .u64 (wd i.set 0 : Nat)) := HXI.out.cell 4
      have e5 : wc.cell? ⟨gx, 5, none⟩ = some (.int .u64 (wd i.set 1 : Nat)) := HXI.out.cell 5
      have e6 : wc.cell? ⟨gx, 6, none⟩ = some (.int .u64 (wd i.set 2 : Nat)) := HXI.out.cell 6
      have e7 : wc.cell? ⟨gx, 7, none⟩ = some (.int .u64 (wd i.set 3 : Nat)) := HXI.out.cell 7
      have hw2 := HW2.out
      by_cases ho : i.op = 1
      · have ho1 : (i.op == 1) = true := beq_iff_eq.2 ho
        cases hst : i.set b.toNat
        · have HST := Lib.hid hst
          have HO := Lib.hid ho
          clear hst ho
          go_wp2_with (go_at_call 30; refine (setHas i.set b.toNat (UInt8.toNat_lt _) _).mono ?_; rintro e w9 ⟨rfl, hb9⟩; rw [HST.out])
          go_roundg (n - (j + 1))
          case measure => have := HJN.out; omega
          case rel =>
            refine ⟨j + 1, by have := HJN.out; omega, rfl, by go_num, vj, csj, Wj, svj, sj, HXR.out.keep hb9, HSJ.out, HLJ.out, ?_, HOJ.out, HUJ.out, HXN.out.then_ext hb9⟩
            rw [HMV.out, if_neg (fun h => by rw [HST.out] at h; cases h.2), List.append_nil]
            exact HQJ.out
        · have HST := Lib.hid hst
          have HO := Lib.hid ho
          have hpl := HR.out.closed.next pc i HI.out (.inl ho)
          obtain ⟨s2, L, hF⟩ := fol_ex HR.out.closed (pos + 1) sj caps hpl
          have HF := Lib.hid hF
          have hwpc : IntKind.i64.wrap ((pc : Int) + 1) = ((pc + 1 : Nat) : Int) := by rw [wrap_id (by omega) (by have := HR.out.most; omega)]; omega
          have HCN := Lib.hid (fol_count hF)
          clear hst ho hpl hF
          go_upto_region 9 with (go_at_call 30; refine (setHas i.set b.toNat (UInt8.toNat_lt _) _).mono ?_; rintro e w9 ⟨rfl, hb9⟩; rw [HST.out])
          have HR9 := Lib.hid (HXR.out.keep hb9)
          have HC9 := Lib.hid (show CapV R.gr w9 (.slice AC caps.length cC) caps from own_ext HXC.out hb9)
          have HN9 := Lib.hid (HXN.out.then_ext hb9)
          have hW9 := HXW.out.keep hb9
          have z0 : w9.cell? ⟨gw, 0, none⟩ = some (.int .i64 (pc : Nat)) := hW9.cell 0
          have z1 : w9.cell? ⟨gw, 1, none⟩ = some (.int .i64 from_) := hW9.cell 1
          have z2 : w9.cell? ⟨gw, 2, none⟩ = some (.slice AC caps.length cC) := hW9.cell 2
          clear hW9 hb9 e0 e4 e5 e6 e7
          go_wp2_with (go_at_call 58; rw [← HGR.out]; refine (smFollow R HR.out (pos + 1) (turn + 1) (by omega) (by omega) (un R.c sj) HF.out (Nat.le_refl _) from_ (.slice AC caps.length cC) vj csj Wj svj w9 HSJ.out HLJ.out HC9.out (HOK.out _ HMEM.out).2 (by have := HUJ.out; have := HR.out.most; omega) HR9.out).mono ?_; rintro e wd ⟨rfl, hres⟩; rw [HGR.out])
          go_roundg (n - (j + 1))
          case measure => have := HJN.out; omega
          case rel =>
            obtain ⟨v2, cs2, sv2, hM2, hs2, hl2, hN2⟩ := hres
            refine ⟨j + 1, by have := HJN.out; omega, rfl, by go_num, v2, cs2, _, sv2, s2, hM2, hs2, hl2, ?_, HOJ.out.app HF.out (HOK.out _ HMEM.out).2 from_, ?_, HN9.out.trans hN2⟩
            · rw [HMV.out, if_pos ⟨HO.out, HST.out⟩]
              exact seq_snoc (w := (pc + 1, from_, caps)) HQJ.out HF.out
            · have := HCN.out; have := HUJ.out; rw [List.length_append, List.length_map]; omega
      · have ho1 : (i.op == 1) = false := beq_eq_false_iff_ne.2 ho
        have HO := Lib.hid ho
        clear ho
        go_wp2
        go_roundg (n - (j + 1))
        case measure => have := HJN.out; omega
        case rel =>
          refine ⟨j + 1, by have := HJN.out; omega, rfl, by go_num, vj, csj, Wj, svj, sj, HXR.out, HSJ.out, HLJ.out, ?_, HOJ.out, HUJ.out, HXN.out⟩
          rw [HMV.out, if_neg (fun h => HO.out h.1), List.append_nil]
          exact HQJ.out
    · obtain rfl : j = n := by omega
      have hlt' : ¬ (j : Int) < (j : Int) := by omega
      go_wp2
      go_end0
      refine ⟨rfl, vj, csj, Wj, svj, sj, HRJ.out, HSJ.out, HLJ.out, ?_, HOJ.out, HUJ.out, ?_⟩
      · have h := HQJ.out
        rw [List.take_of_length_le (by rw [HN.out]; exact Nat.le_refl _)] at h
        exact h
      · have h := HNJ.out
        refine ⟨(HC0.out.mono (fun x hx => by have := HGR.out; simp at hx; subst hx; simp [this])).more h.ch (fun y hy => ?_), fun k hk => ?_⟩
        · rcases List.mem_cons.1 hy with rfl | hy
          · exact .inl (by simp)
          · rcases List.mem_cons.1 hy with rfl | hy
            · exact .inl (by simp)
            · simp [Value.ownBlock] at hy
        · rcases h.at_ k hk with e | e
          · cases e
          · exact .inr (Nat.le_trans HC0.out.size e)
end Go.Proofs.YtdhmfgaiomfodaaDoor
namespace Go.Proofs.YtdhmfgaiomfodaaDoor
open Go Go.RowKit
attribute [local irreducible] wd

theorem results_hit3 {fn : Func} {p a b : Tmp} (h : fn.results = #[.cell p 54, .tmp a, .tmp b]) {tmps : Array Value} {w : World} {g : Nat} {cs : List Value} {va vb : Value}
    (hp : tmps.getD p undef = .pointer (some ⟨g, 0, none⟩)) (hg : Blk w g 54 cs) (h8 : cs.length = 2) (ha : tmps.getD a undef = va) (hb : tmps.getD b undef = vb) : (results fn tmps).run Tryd.prog w = .ok (.tuple #[.agg cs.toArray, va, vb]) w := by
  have hp' : tmps[p]?.getD undef = .pointer (some ⟨g, 0, none⟩) := by simpa using hp
  have hl := load_hit hg h8
  subst ha hb
  simp [results, h, hp', asAddr, hl]

def noneK (G : Nat) : List Int := List.replicate (2 * G) (-1)
/-- What Find answers. -/
def FindR (c : List Ins) (G : Nat) (l : List UInt8) (w : World) (e : Ending) (w' : World) : Prop :=
  match findP c (noneK G) l with
  | none => e = .returned (.tuple #[.agg #[.int .i64 0, .slice none 0 0], .int .i64 0, .bool false]) ∧ Ext w w'
  | some x => ∃ A cc, e = .returned (.tuple #[.agg #[.int .i64 x.2.1, .slice A x.2.2.length cc], .int .i64 (x.1 : Nat), .bool true]) ∧ w'.ownsRow w.heap.size 3 1 (.slice A x.2.2.length cc) x.2.2.length (intsV x.2.2) ∧ Ext w w'
/-- While a text is gone through. -/
def FindJ (R : RS) (l : List UInt8) (w0 : World) (gh j : Nat) (wr : World) : Prop :=
  ∃ v cs W sv s, RunM R wr (j : Nat) v cs W sv ((j + 1 : Nat) : Int) ∧ seenB sv ((j + 1 : Nat) : Int) = s ∧ (∀ x ∈ sv, x ≤ ((j + 1 : Nat) : Int)) ∧ Stand R.c (noneK R.G) 0 l allB j s W ∧ WaysOK R.c R.G W ∧ W.length + un R.c s ≤ R.c.length ∧ (∀ i, i < j → hitAt R.c (noneK R.G) 0 allB l i = none) ∧ Blk wr gh 54 [.int .i64 0, .slice none 0 0] ∧ Ext w0 wr

set_option maxHeartbeats 4000000 in
set_option maxRecDepth 20000 in
theorem smFind (c : List Ins) (G : Nat) (h : ProgOK c G) (A : Option Addr) (cc : Nat) (l : List UInt8) (hl : l.length ≤ 1000) (w0 : World) (hR : Rd w0 8 A c.length (codeV c)) :
    Calls Tryd.prog 25 #[.agg #[.slice A c.length cc, .int .i64 (G : Nat)], .string ⟨l.toArray⟩] w0 fun e w' => FindR c G l w0 e w' := by
  have hx1 := Ext.new1 w0 (.cells #[.slice A c.length cc, .int .i64 (G : Nat)] 32)
  have hx2 := Ext.new1 (w0.alloc (.cells #[.slice A c.length cc, .int .i64 (G : Nat)] 32)) (.cells #[.int .i64 0, .slice none 0 0] 54)
  have HX0 := Lib.hid (Ext.trans hx1 hx2)
  have HR := Lib.hid (hR.keep HX0.out)
  obtain ⟨gp, hgp⟩ : ∃ gp, w0.heap.size = gp := ⟨_, rfl⟩
  have HP := Lib.hid ((Blk.newA (w := w0) hgp 32 [.slice A c.length cc, .int .i64 (G : Nat)]).keep hx2)
  have HH := Lib.hid (Blk.newA (w := w0.alloc (.cells #[.slice A c.length cc, .int .i64 (G : Nat)] 32)) (g := gp + 1) (by simp [hgp]) 54 [.int .i64 0, .slice none 0 0])
  have HGP := Lib.hid hgp
  have HK := Lib.hid h
  have HL := Lib.hid hl
  clear hx1 hx2 hR hgp h hl
  go_enter Tryd.func25, Tryd.ntmps25
  go_upto_region 1 with fail
  rw [HGP.out]
  generalize (w0.alloc (.cells _ 32)).alloc (.cells _ 54) = wa at *
  have p0 : wa.cell? ⟨gp, 0, none⟩ = some (.slice A c.length cc) := HP.out.cell 0
  have p1 : wa.cell? ⟨gp, 1, none⟩ = some (.int .i64 (G : Nat)) := HP.out.cell 1
  go_wp2_with (go_at_call 31; refine (smNew c G HK.out A cc 0 (by omega) (by omega) wa HR.out).mono ?_; rintro e w1 ⟨gr, gs, rfl, hrun, hx1, hgs⟩; have HRUN := Lib.hid hrun; have HX1 := Lib.hid hx1; have HGS := Lib.hid hgs; clear hrun hx1 hgs)
  clear p0 p1
  have HXA := Lib.hid (Ext.trans HX0.out HX1.out)
  have HHA := Lib.hid (HH.out.keep HX1.out)
  have HGX := Lib.hid (show gp + 1 < gs ∧ w0.heap.size ≤ gs from by have := Blk.lt HH.out; have := HGS.out; have := HGP.out; exact ⟨by omega, by omega⟩)
  obtain ⟨gh, hgh⟩ : ∃ gh, gp + 1 = gh := ⟨_, rfl⟩
  rw [hgh] at HHA HGX ⊢
  have HGHP := Lib.hid hgh
  clear hgh HH HX1 HX0 HGS HP HR
  have hst : FindJ ⟨A, cc, c, G, gr, gs⟩ l w0 gh 0 w1 := by
    refine ⟨.slice none 0 0, [], [], List.replicate c.length 0, none0, HRUN.out, seenB_new (fun x hx => ?_), fun x hx => ?_, .zero, (fun a ha => by cases ha), (by have := un_le c none0; simpa using this), (fun i hi => by omega), HHA.out, HXA.out⟩
    · have := (List.mem_replicate.1 hx).2; subst this; omega
    · have := (List.mem_replicate.1 hx).2; subst this; omega
  have HST := Lib.hid hst
  clear hst HRUN HHA HXA
  go_loopg [9] (l.length + 1) (fun g iv wr => ∃ j : Nat, j ≤ l.length ∧ g = l.length + 1 - j ∧ iv = .int .i64 (j : Nat) ∧ FindJ ⟨A, cc, c, G, gr, gs⟩ l w0 gh j wr)
  case atStart => exact ⟨0, by omega, rfl, rfl, HST.out⟩
  case round =>
    obtain ⟨j, hj, rfl, rfl, hJ⟩ := hrel
    clear HST
    obtain ⟨v, cs, W, sv, s, hRj, hSj, hLj, hQj, hOj, hUj, hNj, hHj, hXj⟩ := hJ
    have HRJ := Lib.hid hRj
    have HSJ := Lib.hid hSj
    have HLJ := Lib.hid hLj
    have HQJ := Lib.hid hQj
    have HOJ := Lib.hid hOj
    have HUJ := Lib.hid hUj
    have HNJ := Lib.hid hNj
    have HHJ := Lib.hid hHj
    have HXJ := Lib.hid hXj
    have HJL := Lib.hid hj
    obtain ⟨s', L, hF⟩ := fol_ex HK.out.r.closed (j : Int) s (noneK G) HK.out.r.pos
    have HF := Lib.hid hF
    have hseq : Seq c (0 + (j : Nat)) s (begs (allB j) (0 + (j : Nat)) (noneK G)) s' ((L.map fun e => (e.1, (0 : Int) + (j : Nat), e.2)) ++ []) := by
      rw [Int.zero_add]
      exact .cons (w := (0, (j : Int), noneK G)) hF .nil
    rw [List.append_nil] at hseq
    have HSEQ := Lib.hid hseq
    have hhit := stand_hit HK.out.r.closed HK.out.r.pos hQj hseq
    rw [Int.zero_add] at hhit
    have HHIT := Lib.hid hhit
    have hcnt := fol_count hF
    have HCNT := Lib.hid (show (W ++ L.map fun e => (e.1, (j : Int), e.2)).length ≤ 1000 from by have h1 : W.length + un c s ≤ c.length := HUJ.out; have h2 := HK.out.r.most; have h3 := hcnt; rw [List.length_append, List.length_map]; omega)
    have HCN2 := Lib.hid hcnt
    have hokW : WaysOK c G (W ++ L.map fun e => (e.1, (j : Int), e.2)) := WaysOK.app (c := c) (G := G) hOj hF (by simp [noneK]) (j : Int)
    have HOW := Lib.hid hokW
    clear hRj hSj hLj hQj hOj hUj hNj hHj hXj hj hF hseq hhit hcnt hokW
    have HT := Lib.hid (show (0 : Int) ≤ ((j + 1 : Nat) : Int) ∧ ((j + 1 : Nat) : Int) ≤ 100000 from by have := HJL.out; have := HL.out; exact ⟨by omega, by omega⟩)
    go_upto_region 7 with (go_at_call 32; refine (smBegin ⟨A, cc, c, G, gr, gs⟩ HK.out.r (j : Nat) ((j + 1 : Nat) : Int) HT.out.1 (by have := HT.out.2; omega) HF.out v cs W sv wr HSJ.out HLJ.out (by have := HUJ.out; have := HK.out.r.most; dsimp only at *; omega) HRJ.out).mono ?_; rintro e wB ⟨rfl, hres⟩)
    obtain ⟨vB, csB, svB, hMB, hsB, hlB, hNB⟩ := hres
    have HMB := Lib.hid hMB
    have HSB := Lib.hid hsB
    have HLB := Lib.hid hlB
    have HNB := Lib.hid hNB
    have hlow : ∀ x ∈ gr :: gs :: v.ownBlock.toList, gs ≤ x := by
      intro x hx
      have h1 := HRJ.out.ord
      dsimp only at h1
      rcases List.mem_cons.1 hx with rfl | hx
      · omega
      · rcases List.mem_cons.1 hx with rfl | hx
        · omega
        · have := (HRJ.out.own.lt x (by simpa using hx)).1; dsimp only at this; omega
    have HXB := Lib.hid (show Ext w0 wB from Chg.below HNB.out.ch HXJ.out HXJ.out.size (fun x hx => by have := hlow x hx; have := HGX.out.2; omega))
    have HHB := Lib.hid (HHJ.out.chg HNB.out.ch (fun hm => by have := hlow gh hm; have := HGX.out.1; omega))
    clear hMB hsB hlB hNB hlow
    cases hh : hitAt c (noneK G) 0 allB l j with
    | some x =>
      obtain ⟨f, q⟩ := x
      have HHH := Lib.hid hh
      clear hh
      go_wp2_with (first
        | (have := hans; refine store_hit rfl (.tmp 10) (.tmp 27) rfl (g := wC.heap.size) (old := [.int .i64 0, .slice none 0 0]) [.int .i64 f, .slice AC q.length cC] rfl rfl (Blk.newL wC 54 [.int .i64 0, .slice none 0 0]) rfl rfl rfl ?_)
        | (go_at_call 33; refine (smHit ⟨A, cc, c, G, gr, gs⟩ HK.out.r (j : Nat) ((j + 1 : Nat) : Int) vB csB _ svB wB HCNT.out (fun a ha => ⟨(HOW.out a ha).1, by have := (HOW.out a ha).2; have := HK.out.r.few; omega⟩) HMB.out).mono ?_; intro e wC hans; unfold HitAns at hans; rw [HHIT.out, HHH.out] at hans; obtain ⟨AC, cC, rfl, hown, hxC⟩ := hans; have hans := hxC))
      have hB1 := Blk.newL wC 54 [.int .i64 0, .slice none 0 0]
      have hxD : Ext wC ((wC.alloc (.cells #[.int .i64 0, .slice none 0 0] 54)).setRow wC.heap.size #[.int .i64 f, .slice AC q.length cC]) := (Ext.new1 _ _).rowX _ _ (Nat.le_refl _)
      have HBK := Lib.hid (show Blk ((wC.alloc (.cells #[.int .i64 0, .slice none 0 0] 54)).setRow wC.heap.size #[.int .i64 f, .slice AC q.length cC]) wC.heap.size 54 [.int .i64 f, .slice AC q.length cC] from Blk.row hB1 _)
      have HXD := Lib.hid (Ext.trans hxC hxD)
      have HOD := Lib.hid (own_ext (own_base hown (b' := w0.heap.size) HXB.out.size) hxD)
      have HHD := Lib.hid (HHB.out.keep (Ext.trans hxC hxD))
      have HRD := Lib.hid (HMB.out.blk.keep (Ext.trans hxC hxD))
      have hownB := own_ext hown (Ext.trans (Ext.refl wC) hxD)
      have HGHB : gh + 1 ≤ wB.heap.size := by have := HHB.out.lt; omega
      clear hB1 hxD hown hxC hans this
      generalize (wC.alloc (.cells #[.int .i64 0, .slice none 0 0] 54)).setRow wC.heap.size #[.int .i64 f, .slice AC q.length cC] = wD at *
      generalize wC.heap.size = gk at *
      have k0 : wD.cell? ⟨gk, 0, none⟩ = some (.int .i64 f) := HBK.out.cell 0
      have k1 : wD.cell? ⟨gk, 1, none⟩ = some (.slice AC q.length cC) := HBK.out.cell 1
      have r2 : wD.cell? ⟨gr, 2, none⟩ = some (.int .i64 (j : Nat)) := HRD.out.cell 2
      have g0 : wD.cell? ⟨gh, 0, none⟩ = some (.int .i64 0) := HHD.out.cell 0
      have g1 : wD.cell? ⟨gh, 1, none⟩ = some (.slice none 0 0) := HHD.out.cell 1
      have fg0 := HHD.out.frozen 0
      have fg1 := HHD.out.frozen 1
      go_region
      have HFIN := Lib.hid ((((HHD.out.set_ 0 (.int .i64 f)).set_ 1 (.slice AC q.length cC)).keep ((Below.refl _ _).drew) : Blk ((wD.setCell ⟨gh, 0, none⟩ (.int .i64 f)).setCell ⟨gh, 1, none⟩ (.slice AC q.length cC)).drew gh 54 [.int .i64 f, .slice AC q.length cC]))
      have hghw : w0.heap.size ≤ gh := by have := HGHP.out; have := HGP.out; omega
      have HEXF := Lib.hid (show Ext w0 ((wD.setCell ⟨gh, 0, none⟩ (.int .i64 f)).setCell ⟨gh, 1, none⟩ (.slice AC q.length cC)).drew from (((Ext.trans HXB.out HXD.out).setCell (p := ⟨gh, 0, none⟩) hghw _).setCell (p := ⟨gh, 1, none⟩) hghw _).drew)
      have HOF := Lib.hid (own_up (X := [gh]) (own_base hownB (b' := gh + 1) HGHB) (fun x hx => by simp at hx; omega) (((Chg.refl [gh] wD).setCell (p := ⟨gh, 0, none⟩) (by simp) (.int .i64 f)).setCell (p := ⟨gh, 1, none⟩) (by simp) (.slice AC q.length cC)).drew)
      clear k0 k1 r2 g0 g1 fg0 fg1
      generalize ((wD.setCell ⟨gh, 0, none⟩ (.int .i64 f)).setCell ⟨gh, 1, none⟩ (.slice AC q.length cC)).drew = wE at *
      go_wp2
      refine bodyPost_ret (v := .tuple #[.agg ([.int .i64 f, .slice AC q.length cC] : List Value).toArray, .int .i64 (j : Nat), .bool true]) (results_hit3 rfl rfl HFIN.out rfl rfl rfl) rfl ?_
      unfold FindR
      rw [find_is HJL.out HHH.out HNJ.out]
      exact ⟨AC, cC, rfl, own_base HOF.out (by omega), HEXF.out⟩
    | none =>
      have HHH := Lib.hid hh
      clear hh
      by_cases hlt : j < l.length
      · have hne : ¬ (j : Int) = (l.length : Int) := by omega
        have hne' : ((j : Int) == (l.length : Int)) = false := beq_eq_false_iff_ne.2 hne
        go_upto_region 12 with (first
          | (have := hans; refine store_hit rfl (.tmp 10) (.tmp 27) rfl (g := wC.heap.size) (old := [.int .i64 0, .slice none 0 0]) [.int .i64 0, .slice none 0 0] rfl rfl (Blk.newL wC 54 [.int .i64 0, .slice none 0 0]) rfl rfl rfl ?_)
          | (go_at_call 33; refine (smHit ⟨A, cc, c, G, gr, gs⟩ HK.out.r (j : Nat) ((j + 1 : Nat) : Int) vB csB _ svB wB HCNT.out (fun a ha => ⟨(HOW.out a ha).1, by have := (HOW.out a ha).2; have := HK.out.r.few; omega⟩) HMB.out).mono ?_; intro e wC hans; unfold HitAns at hans; rw [HHIT.out, HHH.out] at hans; obtain ⟨rfl, hxC⟩ := hans; have hans := hxC))
        have hxD : Ext wC ((wC.alloc (.cells #[.int .i64 0, .slice none 0 0] 54)).setRow wC.heap.size #[.int .i64 0, .slice none 0 0]) := (Ext.new1 _ _).rowX _ _ (Nat.le_refl _)
        have HXD := Lib.hid (Ext.trans hxC hxD)
        have HMD := Lib.hid (HMB.out.keep HXD.out)
        clear hxD hxC hans
        generalize (wC.alloc (.cells #[.int .i64 0, .slice none 0 0] 54)).setRow wC.heap.size #[.int .i64 0, .slice none 0 0] = wD at *
        have hwj : IntKind.i64.wrap ((j : Int) + 1) = ((j + 1 : Nat) : Int) := by rw [wrap_id (by omega) (by have := HL.out; omega)]; omega
        have hlt2 : (j : Int) < (l.length : Int) := by omega
        clear hne hne'
        go_wp2_with (go_at_call 36; go_loud (refine (smStep ⟨A, cc, c, G, gr, gs⟩ HK.out.r (j : Nat) ((j + 1 : Nat) : Int) (by omega) (by have := HL.out; omega) HT.out.1 HT.out.2 vB csB _ svB wD (l[j]'hlt) HLB.out HCNT.out HOW.out HMD.out).mono ?_); rintro e wE ⟨rfl, hstep⟩)
        go_roundg (l.length + 1 - (j + 1))
        case measure => omega
        case rel =>
          obtain ⟨v2, cs2, W2, sv2, s2, hM2, hs2, hl2, hQ2, hO2, hU2, hN2⟩ := hstep
          have ej : (j : Int) + 1 = ((j + 1 : Nat) : Int) := by omega
          have et : ((j + 1 : Nat) : Int) + 1 = ((j + 1 + 1 : Nat) : Int) := by omega
          rw [ej, et] at hM2
          rw [et] at hs2 hl2
          have hlow : ∀ x ∈ gr :: gs :: vB.ownBlock.toList, gs ≤ x := by
            intro x hx
            have h1 := HMD.out.ord
            dsimp only at h1
            rcases List.mem_cons.1 hx with rfl | hx
            · omega
            · rcases List.mem_cons.1 hx with rfl | hx
              · omega
              · have := (HMD.out.own.lt x (by simpa using hx)).1; dsimp only at this; omega
          have hX0 := Ext.trans HXB.out HXD.out
          refine ⟨j + 1, by omega, rfl, by go_num, v2, cs2, W2, sv2, s2, hM2, hs2, hl2, ?_, hO2, hU2, ?_, ?_, ?_⟩
          · have hq := hQ2
            dsimp only at hq
            rw [ej] at hq
            refine .next HQJ.out HSEQ.out (List.getElem?_eq_getElem hlt) ?_
            rw [Int.zero_add, Int.zero_add]
            exact hq
          · intro i hi
            by_cases h : i < j
            · exact HNJ.out i h
            · obtain rfl : i = j := by omega
              exact HHH.out
          · exact (HHB.out.keep HXD.out).chg hN2.ch (fun hm => by have := hlow gh hm; have := HGX.out.1; omega)
          · exact Chg.below hN2.ch hX0 hX0.size (fun x hx => by have := hlow x hx; have := HGX.out.2; omega)
      · obtain rfl : j = l.length := by have := HJL.out; omega
        have HFN := Lib.hid (show findP c (noneK G) l = none from find_not fun i hi => by
          by_cases h : i < l.length
          · exact HNJ.out i h
          · obtain rfl : i = l.length := by omega
            exact HHH.out)
        clear hlt
        go_wp2_with (first
          | (have := HHE; refine store_hit rfl (.tmp 4) (.tmp 39) rfl (g := gh) [.int .i64 0, .slice none 0 0] rfl rfl HHE.out rfl rfl rfl ?_)
          | (have := hans; refine store_hit rfl (.tmp 10) (.tmp 27) rfl (g := wC.heap.size) (old := [.int .i64 0, .slice none 0 0]) [.int .i64 0, .slice none 0 0] rfl rfl (Blk.newL wC 54 [.int .i64 0, .slice none 0 0]) rfl rfl rfl ?_; have HXE := Lib.hid (Ext.trans hxC (show Ext wC ((wC.alloc (.cells #[.int .i64 0, .slice none 0 0] 54)).setRow wC.heap.size #[.int .i64 0, .slice none 0 0]) from (Ext.new1 _ _).rowX _ _ (Nat.le_refl _))); have HHE := Lib.hid (HHB.out.keep HXE.out); clear hans hxC)
          | (go_at_call 33; refine (smHit ⟨A, cc, c, G, gr, gs⟩ HK.out.r (l.length : Nat) ((l.length + 1 : Nat) : Int) vB csB _ svB wB HCNT.out (fun a ha => ⟨(HOW.out a ha).1, by have := (HOW.out a ha).2; have := HK.out.r.few; omega⟩) HMB.out).mono ?_; intro e wC hans; unfold HitAns at hans; rw [HHIT.out, HHH.out] at hans; obtain ⟨rfl, hxC⟩ := hans; have hans := hxC))
        refine bodyPost_ret (v := .tuple #[.agg ([.int .i64 0, .slice none 0 0] : List Value).toArray, .int .i64 0, .bool false]) (results_hit3 rfl rfl (Blk.row HHE.out _) rfl rfl rfl) rfl ?_
        unfold FindR
        rw [HFN.out]
        exact ⟨rfl, (Ext.trans HXB.out HXE.out).rowX _ _ (by have := HGHP.out; have := HGP.out; omega)⟩
end Go.Proofs.YtdhmfgaiomfodaaDoor
