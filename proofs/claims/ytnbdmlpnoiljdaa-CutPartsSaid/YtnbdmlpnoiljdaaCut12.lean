/- layer 39: Merge. -/
import Derived.Test.YtnbdmlpnoiljdaaCut11
namespace Go.Proofs.Ytnbdmlpnoiljdaa
open Go Go.RowKit

theorem rd_newG {w : World} {g : Nat} (hg : w.heap.size = g) (size n : Nat) (cs : List Value) (e : TypeId) (h : cs.length = n * size) : Rd (w.alloc (.cells cs.toArray e)) size (some ⟨g, 0, none⟩) n cs := by subst hg; exact rd_newS w size n cs e h
theorem OutAt.form {w : World} {B : Nat} {X : List Nat} {v : Value} {es : List Ev} (h : OutAt w B X v es) (hn : 0 < es.length) : ∃ g c, v = .slice (some ⟨g, 0, none⟩) es.length c ∧ B ≤ g ∧ g < w.heap.size ∧ (∀ i, w.frozen? ⟨g, i, none⟩ = false) ∧ es.length ≤ c ∧ c ≤ maxLen := by
  obtain ⟨vs, h1, h2, h3, h4⟩ := h
  rcases h2.2 with ⟨_, h0⟩ | ⟨g, cap, cur, rfl, hb, hg, k1, k2, k3, k4⟩
  · omega
  · have hB : Blk w g 43 cur.toList := by simpa [Blk] using hg
    exact ⟨g, cap, rfl, hb, hB.lt, fun i => hB.frozen i, k1, k2⟩

theorem OutAt.rd2 {w : World} {B : Nat} {X : List Nat} {g c : Nat} {es : List Ev} (h : OutAt w B X (.slice (some ⟨g, 0, none⟩) es.length c) es) : EvsRd w (g :: X) (some ⟨g, 0, none⟩) es.length es := by
  obtain ⟨vs, h1, h2, h3, h4⟩ := h
  obtain ⟨A, c', h5, _, _, h8⟩ := own_rd h2
  cases h5
  exact ⟨vs, h1, rfl, h8, fun j e u he hu => (h4 j e u he hu).step (.refl [] w) (by simp) (fun y hy => .inl (by simpa [Value.ownBlock] using hy))⟩

set_option maxHeartbeats 4000000 in
set_option maxRecDepth 20000 in
theorem cutMerge {w : World} {es : List Ev} {A : Option Addr} {n c : Nat} (hr : EvsRd w [] A n es) (hn : n ≤ 100000) (hnc : n ≤ c) (hN : (atoms es).length ≤ 1000000) :
    Calls Try.prog 11 #[.slice A n c] w fun r w' => ∃ v, r = .returned v ∧ OutAt w' w.heap.size [] v (mergeL (atoms es)) ∧ Ext w w' := by
  have hR : ∀ x ∈ atoms es, rightE x = true := atoms_right
  have HR := Lib.hid hr
  clear hr
  go_enter Try.func11, Try.ntmps11
  go_wp2_with (go_at_call 9; refine (cutAtoms HR.out hn hnc).mono ?_; rintro e w1 ⟨v1, rfl, ho1, hb1⟩; obtain ⟨A1, c1, rfl, hc1, hm1, hE1⟩ := ho1.rd)
  obtain ⟨T, hT⟩ : ∃ T, atoms es = T := ⟨_, rfl⟩
  obtain ⟨N, hNl⟩ : ∃ N, T.length = N := ⟨_, rfl⟩
  rw [hT] at hN hR hE1 hc1 ⊢
  rw [hNl] at hN hE1 hc1 ⊢
  have HE1 := Lib.hid hE1
  have HT := Lib.hid hT
  have HN := Lib.hid hNl
  have HB1 := Lib.hid hb1
  have HRT := Lib.hid hR
  obtain ⟨B, hB⟩ : ∃ B, w1.heap.size = B := ⟨_, rfl⟩
  have HB := Lib.hid hB
  clear hE1 hT hNl ho1 hb1 hR hB
  go_loopw [3, 12] (fun v i wr => ∃ k : Nat, k ≤ N ∧ i = .int .i64 k ∧ OutAt wr B [] v (mergeL (T.take k)) ∧ Ext w1 wr) (fun _ i _ => N - (intOf i).toNat)
  case atStart => exact ⟨0, Nat.zero_le _, rfl, OutAt.nil _ _ _, Ext.refl _⟩
  case round =>
    obtain ⟨k, hk, rfl, hO, hx⟩ := hrel
    have hBw : B ≤ wr.heap.size := by rw [← HB.out]; exact hx.size
    by_cases hlt : k < N
    · obtain ⟨x, hxk⟩ : ∃ x, T[k]? = some x := ⟨_, List.getElem?_eq_getElem (by rw [HN.out]; exact hlt)⟩
      obtain ⟨b, o, Ax, cx, Bx, dx, rfl, hbl, p0', p1', p2', p3', hevx', _, _, _, _, _, _⟩ := HE1.out.at4 hxk
      have p0 : wr.cell? ⟨b, o + k * 4, none⟩ = some (.int .i64 x.kind) := (hx.cell (p := ⟨b, _, none⟩) hbl).trans p0'
      have p1 : wr.cell? ⟨b, o + k * 4 + 1, none⟩ = some (.int .i64 x.n) := (hx.cell (p := ⟨b, _, none⟩) hbl).trans p1'
      have p2 : wr.cell? ⟨b, o + k * 4 + 2, none⟩ = some (.slice Ax x.b.length cx) := (hx.cell (p := ⟨b, _, none⟩) hbl).trans p2'
      have p3 : wr.cell? ⟨b, o + k * 4 + 3, none⟩ = some (.slice Bx x.m.length dx) := (hx.cell (p := ⟨b, _, none⟩) hbl).trans p3'
      have hrx := HRT.out x (List.mem_of_getElem? hxk)
      have hms := mergeL_snoc (T.take k) x
      rw [← take_snoc hxk] at hms
      have hml := mergeL_len (T.take k)
      have hmr : ∀ e ∈ mergeL (T.take k), rightE e = true := merge_right fun y hy => ⟨HRT.out y (List.mem_of_mem_take hy), by have := List.mem_of_mem_take hy; rw [← HT.out] at this; exact atoms_atom y this⟩
      obtain ⟨M, hM⟩ : ∃ M, mergeL (T.take k) = M := ⟨_, rfl⟩
      rw [hM] at hO hms hml hmr
      rw [List.length_take] at hml
      have hx1 := Ext.new1 wr (.cells #[.int .i64 x.kind, .int .i64 x.n, .slice Ax x.b.length cx, .slice Bx x.m.length dx] 43)
      have hX0 := Blk.new wr 43 #[.int .i64 x.kind, .int .i64 x.n, .slice Ax x.b.length cx, .slice Bx x.m.length dx]
      have hevx : ∀ X', (∀ y ∈ X', B ≤ y) → ∀ w', Ext w1 w' → EvOk w' X' x (.slice Ax x.b.length cx) (.slice Bx x.m.length dx) := fun X' hX' w' hw' => hevx'.step (Y := []) (.of_ext hw') (by simp) (fun y hy => .inr (by rw [HB.out]; exact hX' y hy))
      have HEV := Lib.hid hevx
      clear hevx
      have HMS := Lib.hid hms
      have HMR := Lib.hid hmr
      have HRX := Lib.hid hrx
      clear hxk p0' p1' p2' p3' hevx' hms hmr hrx hM
      by_cases h0 : M.length = 0
      · obtain rfl : M = [] := List.eq_nil_of_length_eq_zero h0
        obtain ⟨Av, cv, rfl, hcv, hcm⟩ := hO.len
        obtain ⟨vs, hv1, hv2, hv3, hv4⟩ := hO
        have HV2 := Lib.hid hv2
        have HV3 := Lib.hid hv3
        have HV4 := Lib.hid hv4
        clear hv2 hv3 hv4 h0
        simp only [List.length_nil] at hcv ⊢
        have hgx := hX0.lt
        have x0 := hX0.cell 0
        have x1 := hX0.cell 1
        have x2 := hX0.cell 2
        have x3 := hX0.cell 3
        go_wp2_with (at_builtin; go_loud (refine wpList_app2 (base := B) Try.elemEv rfl (.tmp 35) (.tmp 37) rfl (v := .slice Av 0 cv) (n := 0) rfl (own_ext (n := 0) HV2.out (hx1.trans (Ext.new1 (wr.alloc (.cells #[.int .i64 x.kind, .int .i64 x.n, .slice Ax x.b.length cx, .slice Bx x.m.length dx] 43)) _))) (by simp; omega) rfl (rd_newG (w := wr.alloc (.cells #[.int .i64 x.kind, .int .i64 x.n, .slice Ax x.b.length cx, .slice Bx x.m.length dx] 43)) (g := wr.heap.size + 1) (by simp) 4 1 (evV x (.slice Ax x.b.length cx) (.slice Bx x.m.length dx)) 43 rfl) (by simp [evV, Value.oneCell']) (by omega) (by unfold maxLen; omega) ?_); intro v4 w4 hown4 hg4 _ hat4; obtain ⟨A4, c4, rfl, -, -, -⟩ := own_rd hown4; have HOWN4 := Lib.hid hown4; have HG4 := Lib.hid hg4; have HAT4 := Lib.hid hat4; clear hown4 hg4 hat4)
        have hx2 : Ext wr ((wr.alloc (.cells #[.int .i64 x.kind, .int .i64 x.n, .slice Ax x.b.length cx, .slice Bx x.m.length dx] 43)).alloc (.cells #[.int .i64 x.kind, .int .i64 x.n, .slice Ax x.b.length cx, .slice Bx x.m.length dx] 43)) := hx1.trans (Ext.new1 _ _)
        have hob : ∀ y ∈ (Value.slice Av 0 cv).ownBlock.toList ++ [], B ≤ y := fun y hy => (HV2.out.lt y (by simpa using hy)).1
        have hO4 : OutAt w4 B [] (.slice A4 1 c4) ([] ++ [x]) := OutAt.push rfl vs hv1 HV3.out (fun j e' u h1 h2 => (HV4.out j e' u h1 h2).keep hx2) (HEV.out _ hob _ (hx.trans hx2)) (by simp) HOWN4.out HG4.out HAT4.out
        have hx4 : Ext w1 w4 := HG4.out.below (hx.trans hx2) (by rw [HB.out]; exact Nat.le_refl _) (hx.trans hx2).size
        exact ⟨⟨k + 1, hlt, by go_num, by rw [HMS.out]; exact hO4, hx4⟩, by simp [intOf]; omega⟩
      · obtain ⟨ys, a, rfl⟩ : ∃ ys a, M = ys ++ [a] := by
          rcases List.eq_nil_or_concat M with h | ⟨ys, a, h⟩
          · exact absurd (by rw [h]; rfl) h0
          · exact ⟨ys, a, by rw [h, List.concat_eq_append]⟩
        obtain ⟨j, hj⟩ : ∃ j, ys.length = j := ⟨_, rfl⟩
        have hjl : (ys ++ [a]).length = j + 1 := by simp [hj]
        obtain ⟨g, cv, rfl, hgB', hgw, hfz, hcv, hcm⟩ := hO.form (by omega)
        have hE2 := hO.rd2
        have haj : (ys ++ [a])[j]? = some a := by rw [← hj]; simp
        obtain ⟨b2, o2, Aa, ca, Ba, da, he3, _, m0', m1', m2', m3', heva, _, _, _, _, _, _⟩ := hE2.at4 haj
        cases he3
        rw [Nat.zero_add] at m0' m1' m2' m3'
        rw [hjl] at hcv hml ⊢
        have hra := HMR.out a (by simp)
        have HRA := Lib.hid hra
        have HO := Lib.hid hO
        have HJ := Lib.hid hj
        have HJL := Lib.hid hjl
        have hj1 : ((j + 1 : Nat) : Int) - 1 = j := by omega
        clear h0 hE2 haj hra hO hj hjl
        obtain ⟨gx, hgx⟩ : ∃ gx, wr.heap.size = gx := ⟨_, rfl⟩
        go_wp2
        rw [hgx] at hX0
        generalize hw2 : (wr.alloc (.cells #[.int .i64 x.kind, .int .i64 x.n, .slice Ax x.b.length cx, .slice Bx x.m.length dx] 43)) = w2 at *
        have hX2 : Blk w2 gx 43 [.int .i64 x.kind, .int .i64 x.n, .slice Ax x.b.length cx, .slice Bx x.m.length dx] := hX0
        have hgB : g < w2.heap.size := Nat.lt_of_lt_of_le hgw hx1.size
        have m0 : w2.cell? ⟨g, j * 4, none⟩ = some (.int .i64 a.kind) := (hx1.cell (p := ⟨g, _, none⟩) hgw).trans m0'
        have m1 : w2.cell? ⟨g, j * 4 + 1, none⟩ = some (.int .i64 a.n) := (hx1.cell (p := ⟨g, _, none⟩) hgw).trans m1'
        have m2 : w2.cell? ⟨g, j * 4 + 2, none⟩ = some (.slice Aa a.b.length ca) := (hx1.cell (p := ⟨g, _, none⟩) hgw).trans m2'
        have m3 : w2.cell? ⟨g, j * 4 + 3, none⟩ = some (.slice Ba a.m.length da) := (hx1.cell (p := ⟨g, _, none⟩) hgw).trans m3'
        have HEA := Lib.hid (heva.keep hx1)
        have hxx2 : Ext w1 w2 := hx.trans hx1
        have HEX := Lib.hid (HEV.out [g] (by simp; omega) w2 hxx2)
        have hcvj : j < cv := by omega
        have HX1 := Lib.hid hx1
        have HXX := Lib.hid hxx2
        have HHX := Lib.hid hx
        have HHH := Lib.hid hgx
        have HW2 := Lib.hid hw2
        clear m0' m1' m2' m3' heva hX0 p0 p1 p2 p3 hj1 hx1 hxx2 hw2 hgx hx
        -- DAG CutMerge7
        refine wp_region_dagF (E := EG w2.heap.size 43 (mG w2.heap.size a x (.slice Aa a.b.length ca) (.slice Ba a.m.length da))) (w0 := w2) (Φ := fun i f v w => match i with | 0 => (v = .slice (some ⟨g, 0, none⟩) (j + 1) cv) | 1 => (v = .int .i64 j) | 2 => (v = .pointer (some ⟨g, j * 4, none⟩)) | 3 => (v = evA a (.slice Aa a.b.length ca) (.slice Ba a.m.length da)) | 4 => (v = evA x (.slice Ax x.b.length cx) (.slice Bx x.m.length dx)) | 5 => (∃ e' vb' vm', v = .tuple #[evA e' vb' vm', .bool (canJoin a x)] ∧ JG w2.heap.size a x (.slice Aa a.b.length ca) (.slice Ba a.m.length da) w e' vb' vm') | 6 => (∃ e' vb' vm', v = .tuple #[evA e' vb' vm', .bool (canJoin a x)] ∧ JG w2.heap.size a x (.slice Aa a.b.length ca) (.slice Ba a.m.length da) w e' vb' vm') | 7 => (∃ e' vb' vm', v = evA e' vb' vm' ∧ JG w2.heap.size a x (.slice Aa a.b.length ca) (.slice Ba a.m.length da) w e' vb' vm') | 8 => (v = .bool (canJoin a x)) | 9 => (∃ g', v = .pointer (some ⟨g', 0, none⟩) ∧ w2.heap.size ≤ g' ∧ ∃ cs, cs.length = 4 ∧ Blk w g' 43 cs) | 10 => (∃ g', f 7 = some (.pointer (some ⟨g', 0, none⟩)) ∧ w2.heap.size ≤ g' ∧ ∃ cs, mG w2.heap.size a x (.slice Aa a.b.length ca) (.slice Ba a.m.length da) w cs ∧ Blk w g' 43 cs) | 11 => (v = .bool (canJoin a x)) | _ => True) (show Try.prog.follows .mixedOrders = true from Checked.mixed Try.checked) 41 rfl (by decide +kernel) ?_ (.of_ext ((Below.refl _ _).drew)) ?_ ⟨?_, ?_, ?_, ?_, ?_, ?_, ?_, ?_, ?_, ?_, ?_, ?_, trivial⟩ ?_
        · intro i f v w w' h hE
          match i, h with
          | 0, h => exact h
          | 1, h => exact h
          | 2, h => exact h
          | 3, h => exact h
          | 4, h => exact h
          | 5, h => exact (by obtain ⟨e', vb, vm, h1, h2⟩ := h; exact ⟨e', vb, vm, h1, h2.step hE⟩)
          | 6, h => exact (by obtain ⟨e', vb, vm, h1, h2⟩ := h; exact ⟨e', vb, vm, h1, h2.step hE⟩)
          | 7, h => exact (by obtain ⟨e', vb, vm, h1, h2⟩ := h; exact ⟨e', vb, vm, h1, h2.step hE⟩)
          | 8, h => exact h
          | 9, h => exact (by obtain ⟨g, h1, h2, h3⟩ := h; exact ⟨g, h1, h2, hE.four (fun _ _ => mG_len) h3⟩)
          | 10, h => exact (by obtain ⟨g, h1, h2, h3⟩ := h; exact ⟨g, h1, h2, hE.good (mG_stable _ _ _ _ _) h3⟩)
          | 11, h => exact h
          | _ + 12, _ => trivial
        · exact fun w w' h h' => h.trans (mG_stable _ _ _ _ _) h'
        · -- 0: t22 := move t3 
          intro ac wx hE hsz hdf h
          have e3 : ac.tmps[3]? = some (.slice (some ⟨g, 0, none⟩) (j + 1) cv) := by obtain ⟨v, h1, h2⟩ := h 3 (by decide +kernel); exact h1.trans (h2.symm.trans rfl)
          clear h hsz hdf
          go_wp2
          exact ⟨_, rfl, rfl, EG.refl _⟩
        · -- 1: t23 := move t6 
          intro ac wx hE hsz hdf h
          have e6 : ac.tmps[6]? = some (.int .i64 j) := by obtain ⟨v, h1, h2⟩ := h 6 (by decide +kernel); exact h1.trans (h2.symm.trans rfl)
          clear h hsz hdf
          go_wp2
          exact ⟨_, rfl, rfl, EG.refl _⟩
        · -- 2: t24 := indexAddr 22 t22 t23 
          intro ac wx hE hsz hdf h
          have e22 : ac.tmps[22]? = some (.slice (some ⟨g, 0, none⟩) (j + 1) cv) := by obtain ⟨v, h1, f, h2⟩ := h 22 (by decide +kernel); rw [h1]; exact congrArg some h2
          have e23 : ac.tmps[23]? = some (.int .i64 j) := by obtain ⟨v, h1, f, h2⟩ := h 23 (by decide +kernel); rw [h1]; exact congrArg some h2
          clear h hsz hdf
          go_wp2
          exact ⟨_, rfl, rfl, EG.refl _⟩
        · -- 3: t25 := load 43 t24 
          intro ac wx hE hsz hdf h
          have e24 : ac.tmps[24]? = some (.pointer (some ⟨g, j * 4, none⟩)) := by obtain ⟨v, h1, f, h2⟩ := h 24 (by decide +kernel); rw [h1]; exact congrArg some h2
          clear h hsz hdf
          have hEb : Ext w2 wx := hE.below (Below.refl _ _) (Nat.le_refl _); have y0 := (hEb.cell (p := ⟨g, _, none⟩) hgB).trans m0; have y1 := (hEb.cell (p := ⟨g, _, none⟩) hgB).trans m1; have y2 := (hEb.cell (p := ⟨g, _, none⟩) hgB).trans m2; have y3 := (hEb.cell (p := ⟨g, _, none⟩) hgB).trans m3
          go_wp2
          exact ⟨_, rfl, rfl, EG.refl _⟩
        · -- 4: t26 := load 43 t5 
          intro ac wx hE hsz hdf h
          have e5 : ac.tmps[5]? = some (.pointer (some ⟨gx, 0, none⟩)) := by obtain ⟨v, h1, h2⟩ := h 5 (by decide +kernel); exact h1.trans (h2.symm.trans rfl)
          clear h hsz hdf
          have hEb : Ext w2 wx := hE.below (Below.refl _ _) (Nat.le_refl _); have y0 := (hX2.keep hEb).cell 0; have y1 := (hX2.keep hEb).cell 1; have y2 := (hX2.keep hEb).cell 2; have y3 := (hX2.keep hEb).cell 3
          go_wp2
          exact ⟨_, rfl, rfl, EG.refl _⟩
        · -- 5: t27 := call { value (Operand.func 25), args := #[t25, t26], argTypes := #[43, 43] } 
          intro ac wx hE hsz hdf h
          have e25 : ac.tmps[25]? = some (evA a (.slice Aa a.b.length ca) (.slice Ba a.m.length da)) := by obtain ⟨v, h1, f, h2⟩ := h 25 (by decide +kernel); rw [h1]; exact congrArg some h2
          have e26 : ac.tmps[26]? = some (evA x (.slice Ax x.b.length cx) (.slice Bx x.m.length dx)) := by obtain ⟨v, h1, f, h2⟩ := h 26 (by decide +kernel); rw [h1]; exact congrArg some h2
          clear h hsz hdf
          have hEb : Ext w2 wx := hE.below (Below.refl _ _) (Nat.le_refl _)
          go_wp2_with ((go_at_call 25; refine (cutJoined (HEA.out.keep hEb) (HEX.out.keep hEb) HRA.out HRX.out).mono ?_; rintro r w9 ⟨e9, vb9, vm9, rfl, hj9, hx9, ho9⟩))
          exact ⟨_, rfl, ⟨e9, vb9, vm9, rfl, hj9, ho9.imp id fun h => ⟨own_mono h.1 hE.size, own_mono h.2 hE.size⟩⟩, .of_ext hx9⟩
        · -- 6: t21 := move t27 
          intro ac wx hE hsz hdf h
          obtain ⟨v27, e27, s27⟩ : ∃ v, ac.tmps[27]? = some v ∧ (∃ e' vb' vm', v = .tuple #[evA e' vb' vm', .bool (canJoin a x)] ∧ JG w2.heap.size a x (.slice Aa a.b.length ca) (.slice Ba a.m.length da) wx e' vb' vm') := by obtain ⟨v, h1, f, h2⟩ := h 27 (by decide +kernel); exact ⟨v, h1, h2⟩
          clear h hsz hdf
          go_wp2
          exact ⟨_, rfl, s27, EG.refl _⟩
        · -- 7: t28 := extract t21 0 
          intro ac wx hE hsz hdf h
          obtain ⟨v21, e21, s21⟩ : ∃ v, ac.tmps[21]? = some v ∧ (∃ e' vb' vm', v = .tuple #[evA e' vb' vm', .bool (canJoin a x)] ∧ JG w2.heap.size a x (.slice Aa a.b.length ca) (.slice Ba a.m.length da) wx e' vb' vm') := by obtain ⟨v, h1, f, h2⟩ := h 21 (by decide +kernel); exact ⟨v, h1, h2⟩
          clear h hsz hdf
          obtain ⟨e8, vb8, vm8, rfl, hj8⟩ := s21
          go_wp2
          exact ⟨_, rfl, ⟨_, _, _, rfl, hj8⟩, EG.refl _⟩
        · -- 8: t29 := extract t21 1 
          intro ac wx hE hsz hdf h
          obtain ⟨v21, e21, s21⟩ : ∃ v, ac.tmps[21]? = some v ∧ (∃ e' vb' vm', v = .tuple #[evA e' vb' vm', .bool (canJoin a x)] ∧ JG w2.heap.size a x (.slice Aa a.b.length ca) (.slice Ba a.m.length da) wx e' vb' vm') := by obtain ⟨v, h1, f, h2⟩ := h 21 (by decide +kernel); exact ⟨v, h1, h2⟩
          clear h hsz hdf
          obtain ⟨e8, vb8, vm8, rfl, hj8⟩ := s21
          go_wp2
          exact ⟨_, rfl, rfl, EG.refl _⟩
        · -- 9: t7 := alloc 43 
          intro ac wx hE hsz hdf h
          clear h hsz hdf
          go_wp2
          exact ⟨_, rfl, ⟨_, rfl, hE.size, _, rfl, Blk.newL wx _ [.int .i64 0, .int .i64 0, .slice none 0 0, .slice none 0 0]⟩, .of_ext (Ext.new1 _ _)⟩
        · -- 10: tNone := store 43 t7 t28 
          intro ac wx hE hsz hdf h
          obtain ⟨v7, e7, s7⟩ : ∃ v, ac.tmps[7]? = some v ∧ (∃ g', v = .pointer (some ⟨g', 0, none⟩) ∧ w2.heap.size ≤ g' ∧ ∃ cs, cs.length = 4 ∧ Blk wx g' 43 cs) := by obtain ⟨v, h1, f, h2⟩ := h 7 (by decide +kernel); exact ⟨v, h1, h2⟩
          obtain ⟨v28, e28, s28⟩ : ∃ v, ac.tmps[28]? = some v ∧ (∃ e' vb' vm', v = evA e' vb' vm' ∧ JG w2.heap.size a x (.slice Aa a.b.length ca) (.slice Ba a.m.length da) wx e' vb' vm') := by obtain ⟨v, h1, f, h2⟩ := h 28 (by decide +kernel); exact ⟨v, h1, h2⟩
          clear h hsz hdf
          obtain ⟨gy, rfl, hgy, cs8, hcs8, hby⟩ := s7; obtain ⟨e8, vb8, vm8, rfl, hj8⟩ := s28; obtain ⟨A8, c8, B8, d8, rfl, rfl⟩ := hj8.slices HEA.out; obtain ⟨y0, y1, y2, y3, rfl⟩ := four_of hcs8; have p0 := hby.cell 0; have p1 := hby.cell 1; have p2 := hby.cell 2; have p3 := hby.cell 3; have q0 := hby.frozen 0; have q1 := hby.frozen 1; have q2 := hby.frozen 2; have q3 := hby.frozen 3; unfold evA at e28
          go_wp2
          obtain ⟨hf8, hc8⟩ := set4 hby (.int .i64 e8.kind) (.int .i64 e8.n) (.slice A8 e8.b.length c8) (.slice B8 e8.m.length d8); have hj9 := hj8.chg hc8 hby; exact ⟨undef, rfl, ⟨gy, e7, hgy, _, ⟨_, _, _, rfl, hj9⟩, hf8⟩, EG.store hc8 hgy hby hf8 ⟨_, _, _, rfl, hj9⟩⟩
        · -- 11: t8 := assign t29 
          intro ac wx hE hsz hdf h
          have e29 : ac.tmps[29]? = some (.bool (canJoin a x)) := by obtain ⟨v, h1, f, h2⟩ := h 29 (by decide +kernel); rw [h1]; exact congrArg some h2
          clear h hsz hdf
          go_wp2
          exact ⟨_, rfl, rfl, EG.refl _⟩
        · intro ac w9 hE hsz hdf h hrest
          obtain ⟨v0, f0, s0, g0, -⟩ := h 0 _ rfl
          have e0 := g0 22 rfl
          obtain rfl : v0 = .slice (some ⟨g, 0, none⟩) (j + 1) cv := s0
          obtain ⟨v1, f1, s1, g1, -⟩ := h 1 _ rfl
          have e1 := g1 23 rfl
          obtain rfl : v1 = .int .i64 j := s1
          obtain ⟨v2, f2, s2, g2, -⟩ := h 2 _ rfl
          have e2 := g2 24 rfl
          obtain rfl : v2 = .pointer (some ⟨g, j * 4, none⟩) := s2
          obtain ⟨v3, f3, s3, g3, -⟩ := h 3 _ rfl
          have e3 := g3 25 rfl
          obtain rfl : v3 = evA a (.slice Aa a.b.length ca) (.slice Ba a.m.length da) := s3
          obtain ⟨v4, f4, s4, g4, -⟩ := h 4 _ rfl
          have e4 := g4 26 rfl
          obtain rfl : v4 = evA x (.slice Ax x.b.length cx) (.slice Bx x.m.length dx) := s4
          obtain ⟨v5, f5, s5, g5, -⟩ := h 5 _ rfl
          have e5 := g5 27 rfl
          replace s5 : ∃ e' vb' vm', v5 = .tuple #[evA e' vb' vm', .bool (canJoin a x)] ∧ JG w2.heap.size a x (.slice Aa a.b.length ca) (.slice Ba a.m.length da) w9 e' vb' vm' := s5
          obtain ⟨v6, f6, s6, g6, -⟩ := h 6 _ rfl
          have e6 := g6 21 rfl
          replace s6 : ∃ e' vb' vm', v6 = .tuple #[evA e' vb' vm', .bool (canJoin a x)] ∧ JG w2.heap.size a x (.slice Aa a.b.length ca) (.slice Ba a.m.length da) w9 e' vb' vm' := s6
          obtain ⟨v7, f7, s7, g7, -⟩ := h 7 _ rfl
          have e7 := g7 28 rfl
          replace s7 : ∃ e' vb' vm', v7 = evA e' vb' vm' ∧ JG w2.heap.size a x (.slice Aa a.b.length ca) (.slice Ba a.m.length da) w9 e' vb' vm' := s7
          obtain ⟨v8, f8, s8, g8, -⟩ := h 8 _ rfl
          have e8 := g8 29 rfl
          obtain rfl : v8 = .bool (canJoin a x) := s8
          obtain ⟨v9, f9, s9, g9, -⟩ := h 9 _ rfl
          have e9 := g9 7 rfl
          replace s9 : ∃ g', v9 = .pointer (some ⟨g', 0, none⟩) ∧ w2.heap.size ≤ g' ∧ ∃ cs, cs.length = 4 ∧ Blk w9 g' 43 cs := s9
          obtain ⟨v10, f10, s10, -, fe10⟩ := h 10 _ rfl
          replace s10 : ∃ g', f10 7 = some (.pointer (some ⟨g', 0, none⟩)) ∧ w2.heap.size ≤ g' ∧ ∃ cs, mG w2.heap.size a x (.slice Aa a.b.length ca) (.slice Ba a.m.length da) w9 cs ∧ Blk w9 g' 43 cs := s10
          have l10_7 := fe10 7 (by decide +kernel)
          have l10_28 := fe10 28 (by decide +kernel)
          clear fe10
          obtain ⟨v11, f11, s11, g11, -⟩ := h 11 _ rfl
          have e11 := g11 8 rfl
          obtain rfl : v11 = .bool (canJoin a x) := s11
          obtain ⟨gy, hfy, hgy, csy, ⟨eJ, vb, vm, rfl, hjg⟩, hby⟩ := s10
          obtain rfl : v9 = .pointer (some ⟨gy, 0, none⟩) := Option.some.inj (e9.symm.trans (l10_7.trans hfy))
          clear l10_7 l10_28 hfy s5 s6 s7 s9
          have ha := act_of [(22, .slice (some ⟨g, 0, none⟩) (j + 1) cv), (23, .int .i64 j), (24, .pointer (some ⟨g, j * 4, none⟩)), (25, evA a (.slice Aa a.b.length ca) (.slice Ba a.m.length da)), (26, evA x (.slice Ax x.b.length cx) (.slice Bx x.m.length dx)), (27, v5), (21, v6), (28, v7), (29, .bool (canJoin a x)), (7, .pointer (some ⟨gy, 0, none⟩)), (8, .bool (canJoin a x))] rfl hsz hdf (by intro p hp; simp only [List.mem_cons, List.not_mem_nil, or_false] at hp; rcases hp with rfl | rfl | rfl | rfl | rfl | rfl | rfl | rfl | rfl | rfl | rfl <;> first | exact e0 | exact e1 | exact e2 | exact e3 | exact e4 | exact e5 | exact e6 | exact e7 | exact e8 | exact e9 | exact e11) hrest
          clear h hrest hsz hdf e0 e1 e2 e3 e4 e5 e6 e7 e8 e9 e11 g0 g1 g2 g3 g4 g5 g6 g7 g8 g9 g11
          clear f0 f1 f2 f3 f4 f5 f6 f7 f8 f9 f10 f11
          subst ha
          simp only [List.foldl_cons, List.foldl_nil, Act.put, List.setIfInBounds_toArray, List.set_cons_succ, List.set_cons_zero]
        -- GAD CutMerge7
          have hbw : Ext w2 w9 := hE.below (Below.refl _ _) (Nat.le_refl _)
          have hO9 : OutAt w9 B [] (.slice (some ⟨g, 0, none⟩) (ys ++ [a]).length cv) (ys ++ [a]) := (HO.out.keep HX1.out).keep hbw
          obtain ⟨A8, c8, B8, d8, rfl, rfl⟩ := hjg.slices HEA.out
          have hev9 := hjg.ok (HEA.out.keep hbw) (X := [g]) (by simpa using hgB)
          have d0 : w9.cell? ⟨gy, 0, none⟩ = some (.int .i64 eJ.kind) := hby.cell 0
          have d1 : w9.cell? ⟨gy, 1, none⟩ = some (.int .i64 eJ.n) := hby.cell 1
          have d2 : w9.cell? ⟨gy, 2, none⟩ = some (.slice A8 eJ.b.length c8) := hby.cell 2
          have d3 : w9.cell? ⟨gy, 3, none⟩ = some (.slice B8 eJ.m.length d8) := hby.cell 3
          have n0 : w9.cell? ⟨g, j * 4, none⟩ = some (.int .i64 a.kind) := (hbw.cell (p := ⟨g, _, none⟩) hgB).trans m0
          have n1 : w9.cell? ⟨g, j * 4 + 1, none⟩ = some (.int .i64 a.n) := (hbw.cell (p := ⟨g, _, none⟩) hgB).trans m1
          have n2 : w9.cell? ⟨g, j * 4 + 2, none⟩ = some (.slice Aa a.b.length ca) := (hbw.cell (p := ⟨g, _, none⟩) hgB).trans m2
          have n3 : w9.cell? ⟨g, j * 4 + 3, none⟩ = some (.slice Ba a.m.length da) := (hbw.cell (p := ⟨g, _, none⟩) hgB).trans m3
          have hxc := hX2.keep hbw
          have x0 := hxc.cell 0
          have x1 := hxc.cell 1
          have x2 := hxc.cell 2
          have x3 := hxc.cell 3
          have hx9 : Ext wr w9 := HX1.out.trans hbw
          have hxx9 := HXX.out.trans hbw
          have hB9 := hxx9.size
          have HJG := Lib.hid hjg
          have HO9 := Lib.hid hO9
          have HBY := Lib.hid hby
          clear m0 m1 m2 m3 hE hjg hO9 hby
          by_cases hcj : canJoin a x = true
          · rw [hcj]
            obtain rfl : eJ = joinP a x := HJG.out.1 hcj
            obtain ⟨g', c', hse, _, _, hfz9, _⟩ := HO9.out.form (by simp)
            cases hse
            have q0 := hfz9 (j * 4)
            have q1 := hfz9 (j * 4 + 1)
            have q2 := hfz9 (j * 4 + 2)
            have q3 := hfz9 (j * 4 + 3)
            clear hfz9 hfz
            go_wp2
            have hS := HO9.out.set (j := j) (by rw [HJL.out]; omega) hev9
            rw [show (ys ++ [a]).set j (joinP a x) = ys ++ [joinP a x] by rw [← HJ.out]; simp, HJL.out] at hS
            have hm2 : mstep (ys ++ [a]) x = ys ++ [joinP a x] := by unfold mstep; simp [hcj]
            have hcg : Chg [g] w9 ((((w9.setCell ⟨g, j * 4, none⟩ (.int .i64 (joinP a x).kind)).setCell ⟨g, j * 4 + 1, none⟩ (.int .i64 (joinP a x).n)).setCell ⟨g, j * 4 + 2, none⟩ (.slice A8 (joinP a x).b.length c8)).setCell ⟨g, j * 4 + 3, none⟩ (.slice B8 (joinP a x).m.length d8)) := ((((Chg.refl _ _).setCell (by simp) _).setCell (by simp) _).setCell (by simp) _).setCell (by simp) _
            exact ⟨⟨k + 1, hlt, by go_num, by rw [HMS.out, hm2]; exact hS, hcg.below hxx9 hB9 (fun y hy => by simp at hy; subst hy; rw [HB.out]; exact hgB')⟩, by simp [intOf]; omega⟩
          · rw [show canJoin a x = false by simpa using hcj]
            obtain ⟨vs, hv1, hv2, hv3, hv4⟩ := HO9.out
            rw [HJL.out] at hv2 hv3 hv4
            have HV2 := Lib.hid hv2
            have HV3 := Lib.hid hv3
            have HV4 := Lib.hid hv4
            have hm2 : mstep (ys ++ [a]) x = ys ++ [a] ++ [x] := by unfold mstep; simp [hcj]
            have HM2 := Lib.hid hm2
            have hB9' : B ≤ w9.heap.size := by rw [← HB.out]; exact hB9
            clear hv2 hv3 hv4 hm2 hcj
            go_wp2_with (at_builtin; go_loud (refine wpList_app2 (base := B) Try.elemEv rfl (.tmp 35) (.tmp 37) rfl (v := .slice (some ⟨g, 0, none⟩) (j + 1) cv) (n := j + 1) rfl (own_ext HV2.out (Ext.new1 w9 _)) (by simp; omega) rfl (rd_newS w9 4 1 (evV x (.slice Ax x.b.length cx) (.slice Bx x.m.length dx)) 43 rfl) (by simp [evV, Value.oneCell']) (by omega) (by unfold maxLen; omega) ?_); intro v4 w4 hown4 hg4 _ hat4; obtain ⟨A4, c4, rfl, -, -, -⟩ := own_rd hown4; have HOWN4 := Lib.hid hown4; have HG4 := Lib.hid hg4; have HAT4 := Lib.hid hat4; clear hown4 hg4 hat4)
            have hx91 : Ext w9 (w9.alloc (.cells #[.int .i64 x.kind, .int .i64 x.n, .slice Ax x.b.length cx, .slice Bx x.m.length dx] 43)) := Ext.new1 w9 _
            have hxa := hxx9.trans hx91
            have hob : ∀ y ∈ (Value.slice (some ⟨g, 0, none⟩) (j + 1) cv).ownBlock.toList ++ [], B ≤ y := fun y hy => (HV2.out.lt y (by simpa using hy)).1
            have hO4 : OutAt w4 B [] (.slice A4 (j + 1 + 1) c4) (ys ++ [a] ++ [x]) := OutAt.push (by rw [HJL.out]) vs hv1 HV3.out (fun j e' u h1 h2 => (HV4.out j e' u h1 h2).keep hx91) (HEV.out _ hob _ hxa) (by simp) HOWN4.out HG4.out HAT4.out
            have hx4 : Ext w1 w4 := HG4.out.below hxa (by rw [HB.out]; exact Nat.le_refl _) hxa.size
            exact ⟨⟨k + 1, hlt, by go_num, by rw [HMS.out, HM2.out]; exact hO4, hx4⟩, by simp [intOf]; omega⟩
    · obtain rfl : k = N := by omega
      rw [List.take_of_length_le (by rw [HN.out]; exact Nat.le_refl _)] at hO
      have hO2 := hO.weak (B' := w.heap.size) (X' := []) (by rw [← HB.out]; exact HB1.out.size) (by simp)
      have HO2 := Lib.hid hO2
      clear hO hO2
      go_wp2
      go_ret
      exact ⟨_, rfl, by rw [HT.out]; exact HO2.out, HB1.out.trans hx⟩
end Go.Proofs.Ytnbdmlpnoiljdaa
