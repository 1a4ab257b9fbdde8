/- layer 5: are tokens the document's? -/
import Derived.Test.YtbipkbpcjkgohaaIac6
import Derived.Test.YtbipkbpcjkgohaaActOf
namespace Go.Proofs.Ytbipkbpcjkgohaa
open Go Go.RowKit

set_option maxHeartbeats 2000000 in
set_option maxRecDepth 20000 in
theorem lawSame (ts : List Tok) (cs : List Value) (A B : Option Addr) (n ca cb : Nat) (w : World) (hA : Rd w 5 A n cs) (hT : TokL w [] ts cs) (hB : Rd w 5 B n (rtokAll ts)) (hn : n ≤ 1000000) :
    Calls Try.prog 13 #[.slice A n ca, .slice B n cb] w fun e w' => e = .returned (.bool true) ∧ Ext w w' := by
  have hl : ts.length = n := by have h1 := hA.1; have h2 := hT.len; omega
  have HL := Lib.hid hl
  clear hl
  go_enter Try.func13, Try.ntmps13
  go_wp2
  go_loopw [14] (fun i wr => ∃ k : Nat, k ≤ n ∧ i = .int .i64 k ∧ Ext w wr) (fun i _ => n - (intOf i).toNat)
  case atStart => exact ⟨0, Nat.zero_le _, rfl, Ext.refl _⟩
  case round =>
    obtain ⟨k, hk, rfl, hb⟩ := hrel
    by_cases hlt : k < n
    · have hkl : k < ts.length := by have := HL.out; omega
      obtain ⟨t, ht⟩ : ∃ t, ts[k]? = some t := ⟨_, List.getElem?_eq_getElem hkl⟩
      obtain ⟨tb, c0, c1, c2, c3, c4, Ab, nb, db, rfl, hnb, hdb, hrb, _⟩ := hT.at_ ht
      obtain ⟨ba, oa, rfl, hba, hca⟩ := hA.2 (by have := hA.1; omega)
      obtain ⟨bb, ob, rfl, hbb, hcb⟩ := hB.2 (by have := hB.1; omega)
      obtain ⟨d0, d1, d2, d3, d4⟩ := rtok_at ts t k ht
      have a0 := (hb.cell (p := ⟨ba, _, none⟩) hba).trans (hca _ _ c0)
      have a1 := (hb.cell (p := ⟨ba, _, none⟩) hba).trans (hca _ _ c1)
      have a2 := (hb.cell (p := ⟨ba, _, none⟩) hba).trans (hca _ _ c2)
      have a3 := (hb.cell (p := ⟨ba, _, none⟩) hba).trans (hca _ _ c3)
      have a4 := (hb.cell (p := ⟨ba, _, none⟩) hba).trans (hca _ _ c4)
      simp only [← Nat.add_assoc] at a0 a1 a2 a3 a4
      have hbb' : bb < wr.heap.size := by have := hb.size; omega
      have hxb := Blk.newL wr 35 [.int .i64 t.kind, .int .i64 t.code, .int .i64 t.opt, .slice Ab nb db, .bool t.cut]
      have hbw := hb.alloc hb.size (.cells #[.int .i64 t.kind, .int .i64 t.code, .int .i64 t.opt, .slice Ab nb db, .bool t.cut] 35)
      go_wp2
      clear a0 a1 a2 a3 a4
      generalize wr.alloc (.cells #[.int .i64 t.kind, .int .i64 t.code, .int .i64 t.opt, .slice Ab nb db, .bool t.cut] 35) = wa at hxb hbw ⊢
      have hX : ∀ wx, Ext wa wx → wx.cell? ⟨wr.heap.size, 0, none⟩ = some (.int .i64 t.kind) ∧ wx.cell? ⟨wr.heap.size, 1, none⟩ = some (.int .i64 t.code) ∧ wx.cell? ⟨wr.heap.size, 2, none⟩ = some (.int .i64 t.opt) ∧ wx.cell? ⟨wr.heap.size, 3, none⟩ = some (.slice Ab nb db) ∧ wx.cell? ⟨wr.heap.size, 4, none⟩ = some (.bool t.cut) := fun wx h => by
        have := hxb.keep h
        exact ⟨this.cell 0, this.cell 1, this.cell 2, this.cell 3, this.cell 4⟩
      have hY : ∀ wx, Ext wa wx → wx.cell? ⟨bb, ob + k * 5, none⟩ = some (.int .i64 t.kind) ∧ wx.cell? ⟨bb, ob + k * 5 + 1, none⟩ = some (.int .i64 t.code) ∧ wx.cell? ⟨bb, ob + k * 5 + 2, none⟩ = some (.int .i64 t.opt) ∧ wx.cell? ⟨bb, ob + k * 5 + 3, none⟩ = some (.string ⟨t.body.toArray⟩) ∧ wx.cell? ⟨bb, ob + k * 5 + 4, none⟩ = some (.bool t.cut) := fun wx h => by
        have hc : ∀ j u, (rtokAll ts)[j]? = some u → wx.cell? ⟨bb, ob + j, none⟩ = some u := fun j u hu => ((hbw.trans (Below.mono h hbw.size)).cell (p := ⟨bb, _, none⟩) hbb).trans (hcb j u hu)
        simp only [Nat.add_assoc]
        exact ⟨hc _ _ d0, hc _ _ d1, hc _ _ d2, hc _ _ d3, hc _ _ d4⟩
      have hrb' : ∀ wx, Ext wa wx → Rd wx 1 Ab nb (bytesV t.body) := fun wx h => hrb.keep (hbw.trans (Below.mono h hbw.size))
      have HX := Lib.hid hX
      have HY := Lib.hid hY
      have HB := Lib.hid hrb'
      have HT := Lib.hid ht
      clear hX hY hrb' ht d0 d1 d2 d3 d4 c0 c1 c2 c3 c4 hca hcb hxb
      -- DAG IacSame6
      refine wp_region_dag (E := Ext) (w0 := wa) (Φ := fun i v w => match i with | 0 => (v = .agg #[.int .i64 t.kind, .int .i64 t.code, .int .i64 t.opt, .slice Ab nb db, .bool t.cut]) | 1 => (v = .agg #[.int .i64 t.kind, .int .i64 t.code, .int .i64 t.opt, .string ⟨t.body.toArray⟩, .bool t.cut]) | 2 => (v = .slice (some ⟨bb, ob, none⟩) n cb) | 3 => (v = .int .i64 k) | 4 => (v = .pointer (some ⟨bb, ob + k * 5, none⟩)) | 5 => (v = .agg #[.int .i64 t.kind, .int .i64 t.code, .int .i64 t.opt, .string ⟨t.body.toArray⟩, .bool t.cut]) | 6 => (v = .bool false) | _ => True) (show Try.prog.follows .mixedOrders = true from Checked.mixed Try.checked) 27 rfl (by decide +kernel) ?_ ((Below.refl _ _).drew) ?_ ⟨?_, ?_, ?_, ?_, ?_, ?_, ?_, trivial⟩ ?_
      · intro i v w w' h hE
        match i, h with
        | 0, h => exact h
        | 1, h => exact h
        | 2, h => exact h
        | 3, h => exact h
        | 4, h => exact h
        | 5, h => exact h
        | 6, h => exact h
        | _ + 7, _ => trivial
      · exact fun w w' h h' => h.trans h'
      · -- 0: t19 := load 35 t6 
        intro ac wx hE hsz hdf h
        have e6 : ac.tmps[6]? = some (.pointer (some ⟨wr.heap.size, 0, none⟩)) := by obtain ⟨v, h1, h2⟩ := h 6 (by decide +kernel); exact h1.trans (h2.symm.trans rfl)
        clear h hsz hdf
        obtain ⟨x0, x1, x2, x3, x4⟩ := HX.out wx hE
        go_wp2
        exact ⟨_, rfl, rfl, Ext.refl _⟩
      · -- 1: t20 := call { value (Operand.func 17), args := #[t19], argTypes := #[35] } 
        intro ac wx hE hsz hdf h
        have e19 : ac.tmps[19]? = some (.agg #[.int .i64 t.kind, .int .i64 t.code, .int .i64 t.opt, .slice Ab nb db, .bool t.cut]) := by obtain ⟨v, h1, h2⟩ := h 19 (by decide +kernel); rw [h1]; exact congrArg some h2
        clear h hsz hdf
        go_wp2_with ((go_at_call 17; refine (lawOf t.kind t.code t.opt Ab nb db t.cut t.body _ (HB.out wx hE)).mono ?_; rintro e w' ⟨rfl, hb2⟩))
        exact ⟨_, rfl, rfl, hb2⟩
      · -- 2: t21 := move t1 
        intro ac wx hE hsz hdf h
        have e1 : ac.tmps[1]? = some (.slice (some ⟨bb, ob, none⟩) n cb) := by obtain ⟨v, h1, h2⟩ := h 1 (by decide +kernel); exact h1.trans (h2.symm.trans rfl)
        clear h hsz hdf
        go_wp2
        exact ⟨_, rfl, rfl, Ext.refl _⟩
      · -- 3: t22 := move t5 
        intro ac wx hE hsz hdf h
        have e5 : ac.tmps[5]? = some (.int .i64 k) := by obtain ⟨v, h1, h2⟩ := h 5 (by decide +kernel); exact h1.trans (h2.symm.trans rfl)
        clear h hsz hdf
        go_wp2
        exact ⟨_, rfl, rfl, Ext.refl _⟩
      · -- 4: t23 := indexAddr 28 t21 t22 
        intro ac wx hE hsz hdf h
        have e21 : ac.tmps[21]? = some (.slice (some ⟨bb, ob, none⟩) n cb) := by obtain ⟨v, h1, h2⟩ := h 21 (by decide +kernel); rw [h1]; exact congrArg some h2
        have e22 : ac.tmps[22]? = some (.int .i64 k) := by obtain ⟨v, h1, h2⟩ := h 22 (by decide +kernel); rw [h1]; exact congrArg some h2
        clear h hsz hdf
        have hkn : (k : Int) < n := by omega
        go_wp2
        exact ⟨_, rfl, rfl, Ext.refl _⟩
      · -- 5: t24 := load 40 t23 
        intro ac wx hE hsz hdf h
        have e23 : ac.tmps[23]? = some (.pointer (some ⟨bb, ob + k * 5, none⟩)) := by obtain ⟨v, h1, h2⟩ := h 23 (by decide +kernel); rw [h1]; exact congrArg some h2
        clear h hsz hdf
        obtain ⟨y0, y1, y2, y3, y4⟩ := HY.out wx hE
        go_wp2
        exact ⟨_, rfl, rfl, Ext.refl _⟩
      · -- 6: t25 := binOp BinOp.neq 40 t20 t24 40 
        intro ac wx hE hsz hdf h
        have e20 : ac.tmps[20]? = some (.agg #[.int .i64 t.kind, .int .i64 t.code, .int .i64 t.opt, .string ⟨t.body.toArray⟩, .bool t.cut]) := by obtain ⟨v, h1, h2⟩ := h 20 (by decide +kernel); rw [h1]; exact congrArg some h2
        have e24 : ac.tmps[24]? = some (.agg #[.int .i64 t.kind, .int .i64 t.code, .int .i64 t.opt, .string ⟨t.body.toArray⟩, .bool t.cut]) := by obtain ⟨v, h1, h2⟩ := h 24 (by decide +kernel); rw [h1]; exact congrArg some h2
        clear h hsz hdf
        go_wp2
        exact ⟨_, rfl, rfl, Ext.refl _⟩
      · intro a w9 hE hsz hdf h hrest
        obtain ⟨v0, s0, g0⟩ := h 0 _ rfl
        have e0 := g0 19 rfl
        obtain rfl : v0 = .agg #[.int .i64 t.kind, .int .i64 t.code, .int .i64 t.opt, .slice Ab nb db, .bool t.cut] := s0
        obtain ⟨v1, s1, g1⟩ := h 1 _ rfl
        have e1 := g1 20 rfl
        obtain rfl : v1 = .agg #[.int .i64 t.kind, .int .i64 t.code, .int .i64 t.opt, .string ⟨t.body.toArray⟩, .bool t.cut] := s1
        obtain ⟨v2, s2, g2⟩ := h 2 _ rfl
        have e2 := g2 21 rfl
        obtain rfl : v2 = .slice (some ⟨bb, ob, none⟩) n cb := s2
        obtain ⟨v3, s3, g3⟩ := h 3 _ rfl
        have e3 := g3 22 rfl
        obtain rfl : v3 = .int .i64 k := s3
        obtain ⟨v4, s4, g4⟩ := h 4 _ rfl
        have e4 := g4 23 rfl
        obtain rfl : v4 = .pointer (some ⟨bb, ob + k * 5, none⟩) := s4
        obtain ⟨v5, s5, g5⟩ := h 5 _ rfl
        have e5 := g5 24 rfl
        obtain rfl : v5 = .agg #[.int .i64 t.kind, .int .i64 t.code, .int .i64 t.opt, .string ⟨t.body.toArray⟩, .bool t.cut] := s5
        obtain ⟨v6, s6, g6⟩ := h 6 _ rfl
        have e6 := g6 25 rfl
        obtain rfl : v6 = .bool false := s6
        have ha := act_of [(19, .agg #[.int .i64 t.kind, .int .i64 t.code, .int .i64 t.opt, .slice Ab nb db, .bool t.cut]), (20, .agg #[.int .i64 t.kind, .int .i64 t.code, .int .i64 t.opt, .string ⟨t.body.toArray⟩, .bool t.cut]), (21, .slice (some ⟨bb, ob, none⟩) n cb), (22, .int .i64 k), (23, .pointer (some ⟨bb, ob + k * 5, none⟩)), (24, .agg #[.int .i64 t.kind, .int .i64 t.code, .int .i64 t.opt, .string ⟨t.body.toArray⟩, .bool t.cut]), (25, .bool false)] rfl hsz hdf (by intro p hp; simp only [List.mem_cons, List.not_mem_nil, or_false] at hp; rcases hp with rfl | rfl | rfl | rfl | rfl | rfl | rfl <;> first | exact e0 | exact e1 | exact e2 | exact e3 | exact e4 | exact e5 | exact e6) hrest
        clear h hrest hsz hdf e0 e1 e2 e3 e4 e5 e6 g0 g1 g2 g3 g4 g5 g6
        subst ha
        simp only [List.foldl_cons, List.foldl_nil, Act.put, List.setIfInBounds_toArray, List.set_cons_succ, List.set_cons_zero]
        go_wp2
        exact ⟨⟨k + 1, by omega, by go_num, hbw.trans (Below.mono hE hbw.size)⟩, by simp [intOf]; omega⟩
      -- GAD IacSame6
    · obtain rfl : k = n := by omega
      go_wp2
      go_ret
      exact ⟨rfl, hb⟩
end Go.Proofs.Ytbipkbpcjkgohaa
