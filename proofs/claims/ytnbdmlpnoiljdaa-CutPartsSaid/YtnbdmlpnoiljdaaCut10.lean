/- layer 39: joined, two stretches of bytes. -/
import Derived.Test.YtnbdmlpnoiljdaaCut9
namespace Go.Proofs.Ytnbdmlpnoiljdaa
open Go Go.RowKit

set_option maxHeartbeats 2000000 in
set_option maxRecDepth 20000 in
/-- Two stretches of bytes. -/
theorem joined_bytes {w : World} {X : List Nat} {a x : Ev} {vb vm ub um : Value} (h : EvOk w X a vb vm) (h' : EvOk w X x ub um) (hk : a.kind = x.kind) (h1k : a.kind = 1) (hbl : a.b.length ≤ 1024) (hml : a.m.length ≤ 1024) (hxl : x.b.length ≤ 1024) (hxm : x.m.length ≤ 1024) (hmb : ∀ y ∈ x.m, 0 ≤ y ∧ y < 1024) :
    Calls Try.prog 25 #[evA a vb vm, evA x ub um] w fun r w' => JoinedTo w w' a x vb vm r := by
  have hcj := canJoin_bytes hk h1k
  have HH := Lib.hid h
  obtain ⟨A, c, B, d, rfl, rfl, h1, h2, h3, h4, hb, hm⟩ := h.open
  obtain ⟨C, c2, D, d2, rfl, rfl, k1, k2, k3, k4, kb, km⟩ := h'.open
  unfold maxLen at h2 h4 k2 k4
  clear h h'
  have hsz : sizeE a = a.b.length := size1 h1k
  have hjp : joinP a x = ⟨1, 0, a.b ++ x.b, a.m ++ x.m.map fun y => (a.b.length : Int) + y⟩ := by unfold joinP; rw [if_neg (by omega)]
  obtain ⟨k, an, ab, am⟩ := a
  obtain ⟨k', xn, xb, xm⟩ := x
  simp only at hk h1k hbl hml hxl hxm h1 h3 k1 k3 hb hm kb km hsz hjp hcj hmb
  subst hk
  subst h1k
  have HCJ := Lib.hid hcj
  have HS := Lib.hid hsz
  have HJP := Lib.hid hjp
  have hx2 := ((Ext.new1 w (.cells #[.int .i64 1, .int .i64 an, .slice A ab.length c, .slice B am.length d] 43)).trans (Ext.new1 _ (.cells #[.int .i64 1, .int .i64 xn, .slice C xb.length c2, .slice D xm.length d2] 43))).trans (Ext.new1 _ (.cells #[.int .i64 0, .int .i64 0, .slice none 0 0, .slice none 0 0] 43))
  have hX0 := ((Blk.new w 43 #[.int .i64 1, .int .i64 an, .slice A ab.length c, .slice B am.length d]).alloc (.cells #[.int .i64 1, .int .i64 xn, .slice C xb.length c2, .slice D xm.length d2] 43)).alloc (.cells #[.int .i64 0, .int .i64 0, .slice none 0 0, .slice none 0 0] 43)
  have hX1 : Blk (((w.alloc (.cells #[.int .i64 1, .int .i64 an, .slice A ab.length c, .slice B am.length d] 43)).alloc (.cells #[.int .i64 1, .int .i64 xn, .slice C xb.length c2, .slice D xm.length d2] 43)).alloc (.cells #[.int .i64 0, .int .i64 0, .slice none 0 0, .slice none 0 0] 43)) (w.heap.size + 1) 43 [.int .i64 1, .int .i64 xn, .slice C xb.length c2, .slice D xm.length d2] := by
    have := (Blk.new (w.alloc (.cells #[.int .i64 1, .int .i64 an, .slice A ab.length c, .slice B am.length d] 43)) 43 #[.int .i64 1, .int .i64 xn, .slice C xb.length c2, .slice D xm.length d2]).alloc (.cells #[.int .i64 0, .int .i64 0, .slice none 0 0, .slice none 0 0] 43)
    simpa using this
  have hX2 : Blk (((w.alloc (.cells #[.int .i64 1, .int .i64 an, .slice A ab.length c, .slice B am.length d] 43)).alloc (.cells #[.int .i64 1, .int .i64 xn, .slice C xb.length c2, .slice D xm.length d2] 43)).alloc (.cells #[.int .i64 0, .int .i64 0, .slice none 0 0, .slice none 0 0] 43)) (w.heap.size + 1 + 1) 43 [.int .i64 0, .int .i64 0, .slice none 0 0, .slice none 0 0] := by
    have := Blk.new ((w.alloc (.cells #[.int .i64 1, .int .i64 an, .slice A ab.length c, .slice B am.length d] 43)).alloc (.cells #[.int .i64 1, .int .i64 xn, .slice C xb.length c2, .slice D xm.length d2] 43)) 43 #[.int .i64 0, .int .i64 0, .slice none 0 0, .slice none 0 0]
    simpa using this
  have HB := Lib.hid hb
  have HM := Lib.hid hm
  have HKB := Lib.hid kb
  have HKM := Lib.hid km
  clear hsz hjp hcj hb hm kb km
  unfold evA
  go_enter Try.func25, Try.ntmps25
  go_wp2_with (go_at_call 32; refine (cutSize (HH.out.keep hx2)).mono ?_; rintro _ w1 ⟨rfl, hb1⟩; rw [HS.out]; have r0 := (hX0.keep hb1).cell 0; have r1 := (hX0.keep hb1).cell 1; have r2 := (hX0.keep hb1).cell 2; have r3 := (hX0.keep hb1).cell 3; have s0 := (hX1.keep hb1).cell 0; have s1 := (hX1.keep hb1).cell 1)
  have hx := hx2.trans hb1
  replace hX0 := hX0.keep hb1
  replace hX1 := hX1.keep hb1
  replace hX2 := hX2.keep hb1
  obtain ⟨ga, hg0e⟩ : ∃ ga, w.heap.size = ga := ⟨_, rfl⟩
  have hgw := hX2.lt
  rw [hg0e] at hX0 hX1 hX2 hgw ⊢
  obtain ⟨gb, hg1e⟩ : ∃ gb, ga + 1 = gb := ⟨_, rfl⟩
  rw [hg1e] at hX1 hX2 hgw ⊢
  obtain ⟨gc, hg2e⟩ : ∃ gc, gb + 1 = gc := ⟨_, rfl⟩
  rw [hg2e] at hX2 hgw ⊢
  have hga : ga < w1.heap.size := by omega
  have hgb : gb < w1.heap.size := by omega
  have HA := Lib.hid (HB.out.keep hx)
  have HBB := Lib.hid (HM.out.keep hx)
  have HC := Lib.hid (HKB.out.keep hx)
  have HD := Lib.hid (HKM.out.keep hx)
  have HX := Lib.hid hx
  have HG0 := Lib.hid hg0e
  have HG1 := Lib.hid hg1e
  have HG2 := Lib.hid hg2e
  clear r0 r1 r2 r3 s0 s1 hx2 hb1 hx hg0e hg1e hg2e HB HM HKB HKM HH HS
  -- DAG CutJoin5
  refine wp_region_dagF (E := EG w1.heap.size 43 (yG w1.heap.size ab xb am)) (w0 := w1) (Φ := fun i f v w => match i with | 0 => (v = .pointer (some ⟨ga, 2, none⟩)) | 1 => (v = .slice A ab.length c) | 2 => (v = .pointer (some ⟨gb, 2, none⟩)) | 3 => (v = .slice C xb.length c2) | 4 => (∃ g, v = .slice (some ⟨g, 0, none⟩) 2 2 ∧ Blk w g 35 [.slice A ab.length c, .slice C xb.length c2]) | 5 => (w.ownsRow w1.heap.size 5 1 v (ab.length + xb.length) (bytesV (ab ++ xb))) | 6 => (v = .pointer (some ⟨ga, 3, none⟩)) | 7 => (v = .slice B am.length d) | 8 => (w.ownsRow w1.heap.size 3 1 v am.length (intsV am)) | 9 => (∃ vb vm, v = .agg #[.int .i64 1, .int .i64 0, vb, vm] ∧ w.ownsRow w1.heap.size 5 1 vb (ab.length + xb.length) (bytesV (ab ++ xb)) ∧ w.ownsRow w1.heap.size 3 1 vm am.length (intsV am)) | 10 => (∃ g, v = .pointer (some ⟨g, 0, none⟩) ∧ w1.heap.size ≤ g ∧ ∃ cs, cs.length = 4 ∧ Blk w g 43 cs) | 11 => (∃ g, f 6 = some (.pointer (some ⟨g, 0, none⟩)) ∧ w1.heap.size ≤ g ∧ ∃ cs, yG w1.heap.size ab xb am w cs ∧ Blk w g 43 cs) | _ => True) (show Try.prog.follows .mixedOrders = true from Checked.mixed Try.checked) 68 rfl (by decide +kernel) ?_ (.of_ext ((Below.refl _ _).drew)) ?_ ⟨?_, ?_, ?_, ?_, ?_, ?_, ?_, ?_, ?_, ?_, ?_, ?_, trivial⟩ ?_
  · intro i f v w w' h hE
    match i, h with
    | 0, h => exact h
    | 1, h => exact h
    | 2, h => exact h
    | 3, h => exact h
    | 4, h => exact (by obtain ⟨g, h1, h2⟩ := h; exact ⟨g, h1, hE.blk h2 (by decide)⟩)
    | 5, h => exact (hE.own h (by decide))
    | 6, h => exact h
    | 7, h => exact h
    | 8, h => exact (hE.own h (by decide))
    | 9, h => exact (by obtain ⟨vb, vm, h1, h2, h3⟩ := h; exact ⟨vb, vm, h1, hE.own h2 (by decide), hE.own h3 (by decide)⟩)
    | 10, h => exact (by obtain ⟨g, h1, h2, h3⟩ := h; exact ⟨g, h1, h2, hE.four (fun _ _ => yG_len) h3⟩)
    | 11, h => exact (by obtain ⟨g, h1, h2, h3⟩ := h; exact ⟨g, h1, h2, hE.good (yG_stable _ _ _ _) h3⟩)
    | _ + 12, _ => trivial
  · exact fun w w' h h' => h.trans (yG_stable _ _ _ _) h'
  · -- 0: t35 := fieldAddr 43 t2 2 
    intro ac wx hE hsz hdf h
    have e2 : ac.tmps[2]? = some (.pointer (some ⟨ga, 0, none⟩)) := by obtain ⟨v, h1, h2⟩ := h 2 (by decide +kernel); exact h1.trans (h2.symm.trans rfl)
    clear h hsz hdf
    go_wp2
    exact ⟨_, rfl, rfl, EG.refl _⟩
  · -- 1: t36 := load 35 t35 
    intro ac wx hE hsz hdf h
    have e35 : ac.tmps[35]? = some (.pointer (some ⟨ga, 2, none⟩)) := by obtain ⟨v, h1, f, h2⟩ := h 35 (by decide +kernel); rw [h1]; exact congrArg some h2
    clear h hsz hdf
    have x1 := (hX0.below (hE.below (Below.refl _ _) (Nat.le_refl _)) hga).cell 2
    go_wp2
    exact ⟨_, rfl, rfl, EG.refl _⟩
  · -- 2: t37 := fieldAddr 43 t3 2 
    intro ac wx hE hsz hdf h
    have e3 : ac.tmps[3]? = some (.pointer (some ⟨gb, 0, none⟩)) := by obtain ⟨v, h1, h2⟩ := h 3 (by decide +kernel); exact h1.trans (h2.symm.trans rfl)
    clear h hsz hdf
    go_wp2
    exact ⟨_, rfl, rfl, EG.refl _⟩
  · -- 3: t38 := load 35 t37 
    intro ac wx hE hsz hdf h
    have e37 : ac.tmps[37]? = some (.pointer (some ⟨gb, 2, none⟩)) := by obtain ⟨v, h1, f, h2⟩ := h 37 (by decide +kernel); rw [h1]; exact congrArg some h2
    clear h hsz hdf
    have x1 := (hX1.below (hE.below (Below.refl _ _) (Nat.le_refl _)) hgb).cell 2
    go_wp2
    exact ⟨_, rfl, rfl, EG.refl _⟩
  · -- 4: t39 := buildSlice 61 2 #[(0, t36), (1, t38)] 
    intro ac wx hE hsz hdf h
    have e36 : ac.tmps[36]? = some (.slice A ab.length c) := by obtain ⟨v, h1, f, h2⟩ := h 36 (by decide +kernel); rw [h1]; exact congrArg some h2
    have e38 : ac.tmps[38]? = some (.slice C xb.length c2) := by obtain ⟨v, h1, f, h2⟩ := h 38 (by decide +kernel); rw [h1]; exact congrArg some h2
    clear h hsz hdf
    go_wp2
    exact ⟨_, rfl, ⟨_, rfl, Blk.newL wx _ _⟩, .of_ext (Ext.new1 _ _)⟩
  · -- 5: t40 := call { value (Operand.func 34), args := #[t39], argTypes := #[61] } 
    intro ac wx hE hsz hdf h
    obtain ⟨v39, e39, s39⟩ : ∃ v, ac.tmps[39]? = some v ∧ (∃ g, v = .slice (some ⟨g, 0, none⟩) 2 2 ∧ Blk wx g 35 [.slice A ab.length c, .slice C xb.length c2]) := by obtain ⟨v, h1, f, h2⟩ := h 39 (by decide +kernel); exact ⟨v, h1, h2⟩
    clear h hsz hdf
    obtain ⟨gl, rfl, hbl⟩ := s39; have hEb := hE.below (Below.refl _ _) (Nat.le_refl _)
    go_wp2_with ((go_at_call 34; refine (concatB ab xb A C ab.length c xb.length c2 gl 35 wx (by omega) (by omega) hbl (HA.out.below hEb (by omega)) (HC.out.below hEb (by omega))).mono ?_; rintro e w9 ⟨v9, rfl, ho9, hb9⟩))
    exact ⟨_, rfl, own_mono ho9 hE.size, .of_ext hb9⟩
  · -- 6: t41 := fieldAddr 43 t2 3 
    intro ac wx hE hsz hdf h
    have e2 : ac.tmps[2]? = some (.pointer (some ⟨ga, 0, none⟩)) := by obtain ⟨v, h1, h2⟩ := h 2 (by decide +kernel); exact h1.trans (h2.symm.trans rfl)
    clear h hsz hdf
    go_wp2
    exact ⟨_, rfl, rfl, EG.refl _⟩
  · -- 7: t42 := load 23 t41 
    intro ac wx hE hsz hdf h
    have e41 : ac.tmps[41]? = some (.pointer (some ⟨ga, 3, none⟩)) := by obtain ⟨v, h1, f, h2⟩ := h 41 (by decide +kernel); rw [h1]; exact congrArg some h2
    clear h hsz hdf
    have x1 := (hX0.below (hE.below (Below.refl _ _) (Nat.le_refl _)) hga).cell 3
    go_wp2
    exact ⟨_, rfl, rfl, EG.refl _⟩
  · -- 8: t43 := call { value (Operand.func 35), args := #[t42], argTypes := #[23] } 
    intro ac wx hE hsz hdf h
    have e42 : ac.tmps[42]? = some (.slice B am.length d) := by obtain ⟨v, h1, f, h2⟩ := h 42 (by decide +kernel); rw [h1]; exact congrArg some h2
    clear h hsz hdf
    have hEb := hE.below (Below.refl _ _) (Nat.le_refl _)
    go_wp2_with ((go_at_call 35; refine (intsClone am B am.length d wx (HBB.out.below hEb (by omega)) (by omega)).mono ?_; rintro e w9 ⟨v9, rfl, ho9, hb9⟩))
    exact ⟨_, rfl, own_mono ho9 hE.size, .of_ext hb9⟩
  · -- 9: t44 := build 43 #[(0, const (1:i64)), (2, t40), (3, t43)] 
    intro ac wx hE hsz hdf h
    obtain ⟨v40, e40, s40⟩ : ∃ v, ac.tmps[40]? = some v ∧ (wx.ownsRow w1.heap.size 5 1 v (ab.length + xb.length) (bytesV (ab ++ xb))) := by obtain ⟨v, h1, f, h2⟩ := h 40 (by decide +kernel); exact ⟨v, h1, h2⟩
    obtain ⟨v43, e43, s43⟩ : ∃ v, ac.tmps[43]? = some v ∧ (wx.ownsRow w1.heap.size 3 1 v am.length (intsV am)) := by obtain ⟨v, h1, f, h2⟩ := h 43 (by decide +kernel); exact ⟨v, h1, h2⟩
    clear h hsz hdf
    obtain ⟨A8, c8, rfl, _, _, _⟩ := own_rd s40; obtain ⟨B8, d8, rfl, _, _, _⟩ := own_rd s43
    go_wp2
    exact ⟨_, rfl, ⟨_, _, rfl, s40, s43⟩, EG.refl _⟩
  · -- 10: t6 := alloc 43 
    intro ac wx hE hsz hdf h
    clear h hsz hdf
    go_wp2
    exact ⟨_, rfl, ⟨_, rfl, hE.size, _, rfl, Blk.newL wx _ [.int .i64 0, .int .i64 0, .slice none 0 0, .slice none 0 0]⟩, .of_ext (Ext.new1 _ _)⟩
  · -- 11: tNone := store 43 t6 t44 
    intro ac wx hE hsz hdf h
    obtain ⟨v6, e6, s6⟩ : ∃ v, ac.tmps[6]? = some v ∧ (∃ g, v = .pointer (some ⟨g, 0, none⟩) ∧ w1.heap.size ≤ g ∧ ∃ cs, cs.length = 4 ∧ Blk wx g 43 cs) := by obtain ⟨v, h1, f, h2⟩ := h 6 (by decide +kernel); exact ⟨v, h1, h2⟩
    obtain ⟨v44, e44, s44⟩ : ∃ v, ac.tmps[44]? = some v ∧ (∃ vb vm, v = .agg #[.int .i64 1, .int .i64 0, vb, vm] ∧ wx.ownsRow w1.heap.size 5 1 vb (ab.length + xb.length) (bytesV (ab ++ xb)) ∧ wx.ownsRow w1.heap.size 3 1 vm am.length (intsV am)) := by obtain ⟨v, h1, f, h2⟩ := h 44 (by decide +kernel); exact ⟨v, h1, h2⟩
    clear h hsz hdf
    obtain ⟨gy, rfl, hgy, cs8, hcs8, hby⟩ := s6; obtain ⟨vb8, vm8, rfl, hob8, hom8⟩ := s44; obtain ⟨y0, y1, y2, y3, rfl⟩ := four_of hcs8; have p0 := hby.cell 0; have p1 := hby.cell 1; have p2 := hby.cell 2; have p3 := hby.cell 3; have q0 := hby.frozen 0; have q1 := hby.frozen 1; have q2 := hby.frozen 2; have q3 := hby.frozen 3; obtain ⟨A8, c8, rfl, _, _, _⟩ := own_rd hob8; obtain ⟨B8, d8, rfl, _, _, _⟩ := own_rd hom8
    go_wp2
    obtain ⟨hf8, hc8⟩ := set4 hby (.int .i64 1) (.int .i64 0) (.slice A8 (ab.length + xb.length) c8) (.slice B8 am.length d8); have hob9 := own_chg hob8 hc8 (fun k hk hm => own_ne_blk hob8 hby (by decide) (by rw [hk]; simp at hm; rw [hm])); have hom9 := own_chg hom8 hc8 (fun k hk hm => own_ne_blk hom8 hby (by decide) (by rw [hk]; simp at hm; rw [hm])); exact ⟨undef, rfl, ⟨gy, e6, hgy, _, ⟨_, _, rfl, hob9, hom9⟩, hf8⟩, EG.store hc8 hgy hby hf8 ⟨_, _, rfl, hob9, hom9⟩⟩
  · intro a w9 hE hsz hdf h hrest
    obtain ⟨v0, f0, s0, g0, -⟩ := h 0 _ rfl
    have e0 := g0 35 rfl
    obtain rfl : v0 = .pointer (some ⟨ga, 2, none⟩) := s0
    obtain ⟨v1, f1, s1, g1, -⟩ := h 1 _ rfl
    have e1 := g1 36 rfl
    obtain rfl : v1 = .slice A ab.length c := s1
    obtain ⟨v2, f2, s2, g2, -⟩ := h 2 _ rfl
    have e2 := g2 37 rfl
    obtain rfl : v2 = .pointer (some ⟨gb, 2, none⟩) := s2
    obtain ⟨v3, f3, s3, g3, -⟩ := h 3 _ rfl
    have e3 := g3 38 rfl
    obtain rfl : v3 = .slice C xb.length c2 := s3
    obtain ⟨v4, f4, s4, g4, -⟩ := h 4 _ rfl
    have e4 := g4 39 rfl
    replace s4 : ∃ g, v4 = .slice (some ⟨g, 0, none⟩) 2 2 ∧ Blk w9 g 35 [.slice A ab.length c, .slice C xb.length c2] := s4
    obtain ⟨v5, f5, s5, g5, -⟩ := h 5 _ rfl
    have e5 := g5 40 rfl
    replace s5 : w9.ownsRow w1.heap.size 5 1 v5 (ab.length + xb.length) (bytesV (ab ++ xb)) := s5
    obtain ⟨v6, f6, s6, g6, -⟩ := h 6 _ rfl
    have e6 := g6 41 rfl
    obtain rfl : v6 = .pointer (some ⟨ga, 3, none⟩) := s6
    obtain ⟨v7, f7, s7, g7, -⟩ := h 7 _ rfl
    have e7 := g7 42 rfl
    obtain rfl : v7 = .slice B am.length d := s7
    obtain ⟨v8, f8, s8, g8, -⟩ := h 8 _ rfl
    have e8 := g8 43 rfl
    replace s8 : w9.ownsRow w1.heap.size 3 1 v8 am.length (intsV am) := s8
    obtain ⟨v9, f9, s9, g9, -⟩ := h 9 _ rfl
    have e9 := g9 44 rfl
    replace s9 : ∃ vb vm, v9 = .agg #[.int .i64 1, .int .i64 0, vb, vm] ∧ w9.ownsRow w1.heap.size 5 1 vb (ab.length + xb.length) (bytesV (ab ++ xb)) ∧ w9.ownsRow w1.heap.size 3 1 vm am.length (intsV am) := s9
    obtain ⟨v10, f10, s10, g10, -⟩ := h 10 _ rfl
    have e10 := g10 6 rfl
    replace s10 : ∃ g, v10 = .pointer (some ⟨g, 0, none⟩) ∧ w1.heap.size ≤ g ∧ ∃ cs, cs.length = 4 ∧ Blk w9 g 43 cs := s10
    obtain ⟨v11, f11, s11, -, fe11⟩ := h 11 _ rfl
    replace s11 : ∃ g, f11 6 = some (.pointer (some ⟨g, 0, none⟩)) ∧ w1.heap.size ≤ g ∧ ∃ cs, yG w1.heap.size ab xb am w9 cs ∧ Blk w9 g 43 cs := s11
    have l11_6 := fe11 6 (by decide +kernel)
    have l11_44 := fe11 44 (by decide +kernel)
    clear fe11
    obtain ⟨gy, hfy, hgy, csy, ⟨vb, vm, rfl, hob, hom⟩, hby⟩ := s11
    obtain rfl : v10 = .pointer (some ⟨gy, 0, none⟩) := Option.some.inj (e10.symm.trans (l11_6.trans hfy))
    clear l11_6 l11_44 hfy s10 s4 s5 s8 s9
    have ha := act_of [(35, .pointer (some ⟨ga, 2, none⟩)), (36, .slice A ab.length c), (37, .pointer (some ⟨gb, 2, none⟩)), (38, .slice C xb.length c2), (39, v4), (40, v5), (41, .pointer (some ⟨ga, 3, none⟩)), (42, .slice B am.length d), (43, v8), (44, v9), (6, .pointer (some ⟨gy, 0, none⟩))] rfl hsz hdf (by intro p hp; simp only [List.mem_cons, List.not_mem_nil, or_false] at hp; rcases hp with rfl | rfl | rfl | rfl | rfl | rfl | rfl | rfl | rfl | rfl | rfl <;> first | exact e0 | exact e1 | exact e2 | exact e3 | exact e4 | exact e5 | exact e6 | exact e7 | exact e8 | exact e9 | exact e10) hrest
    clear h hrest hsz hdf e0 e1 e2 e3 e4 e5 e6 e7 e8 e9 e10 g0 g1 g2 g3 g4 g5 g6 g7 g8 g9 g10
    clear f0 f1 f2 f3 f4 f5 f6 f7 f8 f9 f10 f11
    subst ha
    simp only [List.foldl_cons, List.foldl_nil, Act.put, List.setIfInBounds_toArray, List.set_cons_succ, List.set_cons_zero]
  -- GAD CutJoin5
    have hbw : Ext w1 w9 := hE.below (Below.refl _ _) (Nat.le_refl _)
    have hsw := hbw.size
    have H0 := Lib.hid hX0
    have H1 := Lib.hid hX1
    have H2 := Lib.hid hX2
    have h09 := hX0.keep hbw
    have h19 := hX1.keep hbw
    have c02 := h09.cell 2
    have c13 := h19.cell 3
    obtain ⟨A8, c8, rfl, -, -, -⟩ := own_rd hob
    obtain ⟨B8, d8, rfl, -, -, -⟩ := own_rd hom
    have HOB := Lib.hid hob
    have HOM := Lib.hid hom
    obtain ⟨sB, hsB⟩ : ∃ sB, w1.heap.size = sB := ⟨_, rfl⟩
    have HSB := Lib.hid hsB
    have HBY := Lib.hid hby
    have HBW := Lib.hid hbw
    clear hE hX0 hX1 hX2 h09 h19 hob hom hby hbw hsB
    go_wp2
    clear c02 c13
    go_loopw [48] (fun iv wr => ∃ (k : Nat) (v' : Value), k ≤ xm.length ∧ iv = .int .i64 k ∧ Blk wr gy 43 [.int .i64 1, .int .i64 0, .slice A8 (ab.length + xb.length) c8, v'] ∧ wr.ownsRow w1.heap.size 5 1 (.slice A8 (ab.length + xb.length) c8) (ab.length + xb.length) (bytesV (ab ++ xb)) ∧ wr.ownsRow w1.heap.size 3 1 v' (am ++ (xm.take k).map fun y => (ab.length : Int) + y).length (intsV (am ++ (xm.take k).map fun y => (ab.length : Int) + y)) ∧ Ext w1 wr) (fun iv _ => xm.length - (intOf iv).toNat)
    case atStart => exact ⟨0, _, Nat.zero_le _, rfl, HBY.out, HOB.out, by simpa using HOM.out, HBW.out⟩
    case round =>
      obtain ⟨k, v', hk, rfl, hv, hob, hom, hx⟩ := hrel
      have hsz := hx.size
      have h0w := H0.out.keep hx
      have h1w := H1.out.keep hx
      have a2 := h0w.cell 2
      by_cases hlt : k < xm.length
      · obtain ⟨y, hy⟩ : ∃ y, xm[k]? = some y := ⟨_, List.getElem?_eq_getElem hlt⟩
        have hyb := hmb y (List.mem_of_getElem? hy)
        obtain ⟨bm, om, rfl, hbm, hcm⟩ := (HD.out.keep hx).2 (by simp [intsV]; omega)
        have hcx : wr.cell? ⟨bm, om + k, none⟩ = some (.int .i64 y) := hcm k _ (by simp [intsV, hy])
        have htk : am ++ (xm.take (k + 1)).map (fun y => (ab.length : Int) + y) = (am ++ (xm.take k).map fun y => (ab.length : Int) + y) ++ [(ab.length : Int) + y] := by
          rw [List.take_add_one, hy]; simp
        obtain ⟨M, hM⟩ : ∃ M, am ++ (xm.take k).map (fun y => (ab.length : Int) + y) = M := ⟨_, rfl⟩
        have hMl : M.length ≤ 2048 := by rw [← hM]; simp; omega
        rw [hM] at hom htk
        obtain ⟨A3, c3, rfl, -, -, -⟩ := own_rd hom
        have d3 := hv.cell 3
        have HTK := Lib.hid htk
        have HOM2 := Lib.hid hom
        have HOB2 := Lib.hid hob
        have HV := Lib.hid hv
        have hne : (Value.slice A3 M.length c3).ownBlock ≠ some gy := own_ne_blk hom hv (by decide)
        have hne2 := own_ne hom hob (by decide)
        clear hcm hy htk hom hob hM hv h0w h1w
        go_wp2_with (at_builtin; go_loud (refine wpList_app2 Try.elemI rfl (.tmp 53) (.tmp 59) rfl (n := M.length) rfl (own_ext HOM2.out (Ext.new1 _ _)) (by simp; omega) rfl (rd_one wr (.int .i64 ((ab.length : Int) + y)) 3) (one_one rfl) (by omega) (by unfold maxLen; omega) ?_); intro v4 w4 hown4 hg4 _ hat4; obtain ⟨A4, c4, rfl, -, -, -⟩ := own_rd hown4; have hblk4 := (HV.out.keep (Ext.new1 wr (.cells #[.int .i64 ((ab.length : Int) + y)] 3))).chg hg4.chg (fun hm => hne (Option.mem_toList.1 hm)); have p3 := hblk4.cell 3; have q3 := hblk4.frozen 3)
        have hob4 := own_chg (own_ext HOB2.out (Ext.new1 wr (.cells #[.int .i64 ((ab.length : Int) + y)] 3))) hg4.chg (fun q hq hm => hne2 q (Option.mem_toList.1 hm) hq)
        have hx4 : Ext w1 w4 := hg4.below (hx.alloc hsz _) (Nat.le_refl _) (by simp; omega)
        have hcs4 : Chg [gy] w4 (w4.setCell ⟨gy, 3, none⟩ (.slice A4 (M.length + 1) c4)) := (Chg.refl _ _).setCell (by simp) _
        have hb4 : Blk (w4.setCell ⟨gy, 3, none⟩ (.slice A4 (M.length + 1) c4)) gy 43 [.int .i64 1, .int .i64 0, .slice A8 (ab.length + xb.length) c8, .slice A4 (M.length + 1) c4] := by simpa using hblk4.set_ 3 (.slice A4 (M.length + 1) c4)
        have ho5 := own_chg hown4 hcs4 (fun q hq hm => own_ne_blk hown4 hblk4 (by decide) (by rw [hq]; simp at hm; rw [hm]))
        have ho6 := own_chg hob4 hcs4 (fun q hq hm => own_ne_blk hob4 hblk4 (by decide) (by rw [hq]; simp at hm; rw [hm]))
        have ho7 : (w4.setCell ⟨gy, 3, none⟩ (.slice A4 (M.length + 1) c4)).ownsRow w1.heap.size 3 1 (.slice A4 (M.length + 1) c4) (am ++ (xm.take (k + 1)).map fun y => (ab.length : Int) + y).length (intsV (am ++ (xm.take (k + 1)).map fun y => (ab.length : Int) + y)) := by
          rw [HTK.out, List.length_append]
          simpa [intsV] using ho5
        have hx5 : Ext w1 (w4.setCell ⟨gy, 3, none⟩ (.slice A4 (M.length + 1) c4)) := hcs4.below hx4 hx4.size (by simp; omega)
        go_roundw
        case rel => exact ⟨k + 1, _, hlt, by go_num, hb4, ho6, ho7, hx5⟩
        case measure => simp [intOf]; omega
      · obtain rfl : k = xm.length := by omega
        rw [List.take_length, show (am ++ xm.map fun y => (ab.length : Int) + y).length = am.length + xm.length by simp] at hom
        obtain ⟨A3, c3, rfl, -, -, -⟩ := own_rd hom
        have d0 := hv.cell 0
        have d1 := hv.cell 1
        have d2' := hv.cell 2
        have d3 := hv.cell 3
        have hr := H2.out.keep hx
        have r0 := hr.cell 0
        have r1 := hr.cell 1
        have r2 := hr.cell 2
        have r3 := hr.cell 3
        have f0 := hr.frozen 0
        have f1 := hr.frozen 1
        have f2 := hr.frozen 2
        have f3 := hr.frozen 3
        have hobn := own_ne_blk hob hr (by decide)
        have homn := own_ne_blk hom hr (by decide)
        have HOM2 := Lib.hid hom
        have HOB2 := Lib.hid hob
        have HV := Lib.hid hv
        have HR := Lib.hid hr
        clear hom hob hv h0w h1w hr
        go_wp2
        go_region
        go_wp2
        obtain ⟨hf, hcf⟩ := set4 HR.out (.int .i64 1) (.int .i64 0) (.slice A8 (ab.length + xb.length) c8) (.slice A3 (am.length + xm.length) c3)
        have ho1 := own_chg HOM2.out hcf (fun q hq hm => homn (by rw [hq]; simp at hm; rw [hm]))
        have ho2 := own_chg HOB2.out hcf (fun q hq hm => hobn (by rw [hq]; simp at hm; rw [hm]))
        clear d0 d1 d2' d3 r0 r1 r2 r3 f0 f1 f2 f3
        generalize ((((wr.setCell ⟨gc, 0, none⟩ (.int .i64 1)).setCell ⟨gc, 1, none⟩ (.int .i64 0)).setCell ⟨gc, 2, none⟩ (.slice A8 (ab.length + xb.length) c8)).setCell ⟨gc, 3, none⟩ (.slice A3 (am.length + xm.length) c3)) = wf at hf hcf ho1 ho2 ⊢
        have hf' : Blk wf.drew gc 43 [.int .i64 1, .int .i64 0, .slice A8 (ab.length + xb.length) c8, .slice A3 (am.length + xm.length) c3] := hf
        have p0 := hf'.cell 0
        have p1 := hf'.cell 1
        have p2 := hf'.cell 2
        have p3 := hf'.cell 3
        have hxw := HX.out.trans hx
        have hxf : Ext w wf.drew := (hcf.below hxw hxw.size (by have := HG0.out; have := HG1.out; have := HG2.out; simp; omega)).drew
        have hws := HX.out.size
        have hcd : decide ((ab.length : Int) + xb.length ≤ 1024) = decide (ab.length + xb.length ≤ 1024) := by
          apply decide_eq_decide.2; omega
        refine bodyPost_ret (v := .tuple #[evA ⟨1, 0, ab ++ xb, am ++ xm.map fun y => (ab.length : Int) + y⟩ (.slice A8 (ab.length + xb.length) c8) (.slice A3 (am.length + xm.length) c3), .bool (decide (ab.length + xb.length ≤ 1024))]) ?_ rfl ⟨_, _, _, by rw [HCJ.out], fun _ => HJP.out.symm, hxf, .inr ⟨?_, ?_⟩⟩
        · rw [results_cell_tmp rfl]
          unfold evA
          go_simp
        · have := own_mono (ho2.drew) hws
          simpa using this
        · have := own_mono (ho1.drew) hws
          simpa using this
end Go.Proofs.Ytnbdmlpnoiljdaa
