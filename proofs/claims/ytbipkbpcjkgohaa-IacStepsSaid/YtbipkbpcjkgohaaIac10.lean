/- layer 5: IacJoins walked. -/
import Derived.Test.YtbipkbpcjkgohaaIac9
namespace Go.Proofs.Ytbipkbpcjkgohaa
open Go Go.RowKit

theorem TokL.free {w : World} {X : List Nat} {ts : List Tok} {cs : List Value} (h : TokL w X ts cs) : TokL w [] ts cs := h.step (Chg.refl [] _) (by simp) (by simp)

theorem TokL.one {w : World} {X : List Nat} : ∀ {ts : List Tok} {cs : List Value}, TokL w X ts cs → ∀ u ∈ cs, u.oneCell' = true := by
  intro ts
  induction ts with
  | nil => intro cs h u hu; rw [show cs = [] from h] at hu; simp at hu
  | cons t ts ih =>
    intro cs h u hu
    obtain ⟨b, rest, rfl, h1, h2⟩ := h
    obtain ⟨A, n, c, rfl, _⟩ := h1
    simp only [List.mem_cons] at hu
    rcases hu with rfl | rfl | rfl | rfl | rfl | hu
    · rfl
    · rfl
    · rfl
    · rfl
    · rfl
    · exact ih h2 u hu

set_option maxHeartbeats 2000000 in
set_option maxRecDepth 20000 in
theorem lawJoins (l m : List UInt8) (A B : Option Addr) (n c n' c' : Nat) (w : World) (hr : Rd w 1 A n (bytesV l)) (hs : Rd w 1 B n' (bytesV m)) :
    Calls Try.prog 6 #[.slice A n c, .slice B n' c'] w fun e w' => e = .returned (.bool true) ∧ Ext w w' := by
  have hl := hr.len_bytes
  have hm := hs.len_bytes
  go_enter Try.func6, Try.ntmps6
  by_cases hbig : (400 : Int) < n ∨ 400 < (n' : Int)
  · have hbig' : (400 : Int) < n ∨ (¬ (400 : Int) < n ∧ 400 < (n' : Int)) := by omega
    clear hbig hl hm
    rcases hbig' with h1 | ⟨h1, h2⟩
    all_goals
      go_wp2_with (go_at_call 9; refine (iacAlive _).mono ?_; rintro e w1 ⟨rfl, hb1⟩)
      go_ret
      exact ⟨rfl, hb1⟩
  have g1 : ¬ (400 : Int) < n := by omega
  have g2 : ¬ (400 : Int) < n' := by omega
  clear hbig
  obtain ⟨ts, hts⟩ : ∃ ts, (runM mach0 l).1 = ts := ⟨_, rfl⟩
  obtain ⟨us, hus⟩ : ∃ us, (runM mach0 m).1 = us := ⟨_, rfl⟩
  have hlt : ts.length ≤ n := by have := runM_len l mach0; rw [hts] at this; omega
  have hlu : us.length ≤ n' := by have := runM_len m mach0; rw [hus] at this; omega
  have HTS := Lib.hid hts
  have HUS := Lib.hid hus
  have HL := Lib.hid hl
  have HM := Lib.hid hm
  clear hts hus hl hm
  cases hidle : ((runM mach0 l).2.st == 0) with
  | false =>
    have HI := Lib.hid hidle
    clear hidle
    go_wp2_with (first
      | (go_at_call 11; refine (iacAll l _ _ _ _ (hr.keep hb1) (by omega)).mono ?_; rintro e w2 ⟨v2, cs, rfl, hown2, htk, hb2⟩; rw [HI.out]; obtain ⟨A2, c2, hv2, _, _, hrd2⟩ := own_rd hown2; subst hv2)
      | (go_at_call 9; refine (iacAlive _).mono ?_; rintro e w1 ⟨rfl, hb1⟩))
    go_ret
    exact ⟨rfl, hb1.trans hb2⟩
  | true =>
    have hjoin := run_join l m (by simpa using hidle)
    obtain ⟨fin, hfin⟩ : ∃ fin, ((runM mach0 m).2.st == 0) = fin := ⟨_, rfl⟩
    have hz1 : (runM mach0 (l ++ m)).1 = ts ++ us := by rw [hjoin, HTS.out, HUS.out]
    have hz2 : ((runM mach0 (l ++ m)).2.st == 0) = fin := by rw [hjoin, hfin]
    have HI := Lib.hid hidle
    have HF := Lib.hid hfin
    have HZ1 := Lib.hid hz1
    have HZ2 := Lib.hid hz2
    clear hidle hjoin hfin hz1 hz2
    have hsz : (ts.length : Int) + us.length ≤ 9223372036854775807 := by omega
    go_wp2_with (first
      | (at_builtin; refine wpList_app2 Try.elemT rfl (.tmp 59) (.tmp 60) rfl (v := .slice A6 ts.length c6) rfl hown6 (by omega) rfl ((hrd3.keep hb4).keep (hb5.trans hb6)) (htk3'.one) (by omega) (by unfold maxLen; omega) ?_; intro v7 w7 hown7 hg7 _ _; have hb7 : Ext w5 w7 := hg7.below hb6 (Nat.le_refl _) hz6; have hw7 := hw5.trans hb7; obtain ⟨A7, c7, hv7, _, _, hrd7⟩ := own_rd hown7; subst hv7; clear hg7)
      | (at_builtin; refine wpList_app2 Try.elemT rfl (.tmp 57) (.tmp 58) rfl (v := .slice (some ⟨w5.heap.size, 0, none⟩) 0 0) rfl (own_empty w5 35 5) (by simp) rfl ((((hrd2.keep hb3).keep hb4).keep hb5).keep (Ext.new1 _ _)) (htk2'.one) (by omega) (by unfold maxLen; omega) ?_; intro v6 w6 hown6 hg6 _ _; simp only [Nat.zero_add, List.nil_append] at hown6; have hb6 : Ext w5 w6 := hg6.below (Ext.new1 _ _) (Nat.le_refl _) (by simp); have hw6 := hw5.trans hb6; have hz6 := hb6.size; clear hg6; obtain ⟨A6, c6, hv6, _, _, hrd6⟩ := own_rd hown6; subst hv6)
      | (go_at_call 11; refine (iacAll (l ++ m) _ _ _ _ hrd4' (by omega)).mono ?_; rintro e w5 ⟨v5, ds, rfl, hown5, htk5, hb5⟩; rw [HZ2.out]; rw [HZ1.out] at hown5 htk5; obtain ⟨A5, c5, hv5, _, _, hrd5⟩ := own_rd hown5; have htk5' := htk5.free; clear htk5 hown5; subst hv5; have hw5 := hw4.trans hb5)
      | (at_builtin; refine wpList_app2 Try.elemB rfl (.tmp 38) (.tmp 39) rfl (v := .slice A34 n c34) rfl hown34 (by omega) rfl (hs.keep hw34) (one_bytesV _) (by omega) (by unfold maxLen; omega) ?_; intro v4 w4 hown4 hg4 _ _; have hb4 : Ext w3 w4 := hg4.below hb34 (Nat.le_refl _) hz34; have hw4 := hw3.trans hb4; obtain ⟨A4, c4, hv4, _, _, hrd4⟩ := own_rd hown4; subst hv4; have hrd4' : Rd w4 1 A4 (n + n') (bytesV (l ++ m)) := (by rw [bytesV, List.map_append]; exact hrd4); clear hg4)
      | (at_builtin; refine wpList_app2 Try.elemB rfl (.tmp 36) (.tmp 37) rfl (v := .slice (some ⟨w3.heap.size, 0, none⟩) 0 0) rfl (own_empty w3 5 1) (by simp) rfl ((hr.keep hw3).keep (Ext.new1 _ _)) (one_bytesV _) (by omega) (by unfold maxLen; omega) ?_; intro v34 w34 hown34 hg34 _ _; simp only [Nat.zero_add, List.nil_append] at hown34; have hb34 : Ext w3 w34 := hg34.below (Ext.new1 _ _) (Nat.le_refl _) (by simp); have hw34 := hw3.trans hb34; obtain ⟨A34, c34, hv34, _, _, _⟩ := own_rd hown34; subst hv34; have hz34 := hb34.size; clear hg34)
      | (go_at_call 11; refine (iacAll m _ _ _ _ (hs.keep hw2) (by omega)).mono ?_; rintro e w3 ⟨v3, es, rfl, hown3, htk3, hb3⟩; rw [HF.out]; rw [HUS.out] at hown3 htk3; obtain ⟨A3, c3, hv3, _, _, hrd3⟩ := own_rd hown3; have htk3' := htk3.free; clear htk3 hown3; subst hv3; have hw3 := hw2.trans hb3)
      | (go_at_call 11; refine (iacAll l _ _ _ _ (hr.keep hb1) (by omega)).mono ?_; rintro e w2 ⟨v2, cs, rfl, hown2, htk2, hb2⟩; rw [HI.out]; rw [HTS.out] at hown2 htk2; obtain ⟨A2, c2, hv2, _, _, hrd2⟩ := own_rd hown2; have htk2' := htk2.free; clear htk2 hown2; subst hv2; have hw2 := hb1.trans hb2)
      | (go_at_call 9; refine (iacAlive _).mono ?_; rintro e w1 ⟨rfl, hb1⟩))
    have htA : TokL w7 [] (ts ++ us) (cs ++ es) := TokL.append (htk3'.ext (hb4.trans (hb5.trans hb7))) (htk2'.ext (hb3.trans (hb4.trans (hb5.trans hb7))))
    have htB := htk5'.ext hb7
    have hrB := hrd5.keep hb7
    rw [List.length_append] at hrB
    have hnA : (ts ++ us).length = ts.length + us.length := List.length_append
    generalize ts ++ us = all at htA htB hnA
    have hbn : ts.length + us.length ≤ 800 := by omega
    have hq : (ts.length : Int) + us.length = ((ts.length + us.length : Nat) : Int) := by simp
    rw [hq]
    clear hq
    generalize hn0 : ts.length + us.length = n0 at *
    clear hn0 hrd5 htk5' hown7 hown6 hown34 hrd4 hrd4' hown4 htk2' htk3' hrd2 hrd3 hw2 hw3 hw4 hw34 hw6 hb1 hb2 hb3 hb4 hb5 hb6 hb7 hb34 hz34 hz6 hw5
    generalize cs ++ es = cz at *
    have HN := Lib.hid hnA
    clear hnA
    go_loopw [63] (fun i wr => ∃ k : Nat, k ≤ n0 ∧ i = .int .i64 k ∧ Ext w7 wr) (fun i _ => n0 - (intOf i).toNat)
    case atStart => exact ⟨0, Nat.zero_le _, rfl, Ext.refl _⟩
    case round =>
      obtain ⟨k, hk, rfl, hb⟩ := hrel
      by_cases hlt : k < n0
      · have hkl : k < all.length := by have := HN.out; omega
        obtain ⟨t, ht⟩ : ∃ t, all[k]? = some t := ⟨_, List.getElem?_eq_getElem hkl⟩
        obtain ⟨ta, c0, c1, c2, c3, c4, Aa, na, da, rfl, hna, hda, hra, _⟩ := htA.at_ ht
        obtain ⟨tb, d0, d1, d2, d3, d4, Ab, nb, db, rfl, hnb, hdb, hrb, _⟩ := htB.at_ ht
        obtain ⟨ba, oa, rfl, hba, hca⟩ := hrd7.2 (by have := hrd7.1; omega)
        obtain ⟨bb, ob, rfl, hbb, hcb⟩ := hrB.2 (by have := hrB.1; omega)
        have a0 := (hb.cell (p := ⟨ba, _, none⟩) hba).trans (hca _ _ c0)
        have a1 := (hb.cell (p := ⟨ba, _, none⟩) hba).trans (hca _ _ c1)
        have a2 := (hb.cell (p := ⟨ba, _, none⟩) hba).trans (hca _ _ c2)
        have a3 := (hb.cell (p := ⟨ba, _, none⟩) hba).trans (hca _ _ c3)
        have a4 := (hb.cell (p := ⟨ba, _, none⟩) hba).trans (hca _ _ c4)
        simp only [← Nat.add_assoc] at a0 a1 a2 a3 a4
        have hbb' : bb < wr.heap.size := by have := hb.size; omega
        have hxb := Blk.newL wr 35 [.int .i64 t.kind, .int .i64 t.code, .int .i64 t.opt, .slice Aa na da, .bool t.cut]
        have hbw := Below.alloc hb hb.size (.cells #[.int .i64 t.kind, .int .i64 t.code, .int .i64 t.opt, .slice Aa na da, .bool t.cut] 35)
        go_wp2
        clear a0 a1 a2 a3 a4
        generalize wr.alloc (.cells #[.int .i64 t.kind, .int .i64 t.code, .int .i64 t.opt, .slice Aa na da, .bool t.cut] 35) = wa at hxb hbw ⊢
        have hX : ∀ wx, Ext wa wx → wx.cell? ⟨wr.heap.size, 0, none⟩ = some (.int .i64 t.kind) ∧ wx.cell? ⟨wr.heap.size, 1, none⟩ = some (.int .i64 t.code) ∧ wx.cell? ⟨wr.heap.size, 2, none⟩ = some (.int .i64 t.opt) ∧ wx.cell? ⟨wr.heap.size, 3, none⟩ = some (.slice Aa na da) ∧ wx.cell? ⟨wr.heap.size, 4, none⟩ = some (.bool t.cut) := fun wx h => by
          have := hxb.keep h
          exact ⟨this.cell 0, this.cell 1, this.cell 2, this.cell 3, this.cell 4⟩
        have hY : ∀ wx, Ext wa wx → wx.cell? ⟨bb, ob + k * 5, none⟩ = some (.int .i64 t.kind) ∧ wx.cell? ⟨bb, ob + k * 5 + 1, none⟩ = some (.int .i64 t.code) ∧ wx.cell? ⟨bb, ob + k * 5 + 2, none⟩ = some (.int .i64 t.opt) ∧ wx.cell? ⟨bb, ob + k * 5 + 3, none⟩ = some (.slice Ab nb db) ∧ wx.cell? ⟨bb, ob + k * 5 + 4, none⟩ = some (.bool t.cut) := fun wx h => by
          have hc : ∀ j u, ds[j]? = some u → wx.cell? ⟨bb, ob + j, none⟩ = some u := fun j u hu => ((hbw.trans (Below.mono h hbw.size)).cell (p := ⟨bb, _, none⟩) hbb).trans (hcb j u hu)
          simp only [Nat.add_assoc]
          exact ⟨hc _ _ d0, hc _ _ d1, hc _ _ d2, hc _ _ d3, hc _ _ d4⟩
        have hra' : ∀ wx, Ext wa wx → Rd wx 1 Aa na (bytesV t.body) := fun wx h => hra.keep (hbw.trans (Below.mono h hbw.size))
        have hrb' : ∀ wx, Ext wa wx → Rd wx 1 Ab nb (bytesV t.body) := fun wx h => hrb.keep (hbw.trans (Below.mono h hbw.size))
        have HX := Lib.hid hX
        have HY := Lib.hid hY
        have HA := Lib.hid hra'
        have HB := Lib.hid hrb'
        have HT := Lib.hid ht
        clear hX hY hra' hrb' ht d0 d1 d2 d3 d4 c0 c1 c2 c3 c4 hca hcb hxb
        -- DAG IacJoins15
        refine wp_region_dag (E := Ext) (w0 := wa) (Φ := fun i v w => match i with | 0 => (v = .agg #[.int .i64 t.kind, .int .i64 t.code, .int .i64 t.opt, .slice Aa na da, .bool t.cut]) | 1 => (v = .slice (some ⟨bb, ob, none⟩) n0 c5) | 2 => (v = .int .i64 k) | 3 => (v = .pointer (some ⟨bb, ob + k * 5, none⟩)) | 4 => (v = .agg #[.int .i64 t.kind, .int .i64 t.code, .int .i64 t.opt, .slice Ab nb db, .bool t.cut]) | 5 => (v = .bool true) | 6 => (v = .bool false) | _ => True) (show Try.prog.follows .mixedOrders = true from Checked.mixed Try.checked) 76 rfl (by decide +kernel) ?_ ((Below.refl _ _).drew) ?_ ⟨?_, ?_, ?_, ?_, ?_, ?_, ?_, trivial⟩ ?_
        · intro i v w w' h hE
          match i, h with
          | 0, h => exact h
          | 1, h => exact h
          | 2, h => exact h
          | 3, h => exact h
          | 4, h => exact h
          | 5, h => exact h
          | 6, h => exact h
          | _ + 7, _ => trivial
        · exact fun w w' h h' => h.trans h'
        · -- 0: t68 := load 35 t12 
          intro ac wx hE hsz hdf h
          have e12 : ac.tmps[12]? = some (.pointer (some ⟨wr.heap.size, 0, none⟩)) := by obtain ⟨v, h1, h2⟩ := h 12 (by decide +kernel); exact h1.trans (h2.symm.trans rfl)
          clear h hsz hdf
          obtain ⟨x0, x1, x2, x3, x4⟩ := HX.out wx hE
          go_wp2
          exact ⟨_, rfl, rfl, Ext.refl _⟩
        · -- 1: t69 := move t9 
          intro ac wx hE hsz hdf h
          have e9 : ac.tmps[9]? = some (.slice (some ⟨bb, ob, none⟩) n0 c5) := by obtain ⟨v, h1, h2⟩ := h 9 (by decide +kernel); exact h1.trans (h2.symm.trans rfl)
          clear h hsz hdf
          go_wp2
          exact ⟨_, rfl, rfl, Ext.refl _⟩
        · -- 2: t70 := move t11 
          intro ac wx hE hsz hdf h
          have e11 : ac.tmps[11]? = some (.int .i64 k) := by obtain ⟨v, h1, h2⟩ := h 11 (by decide +kernel); exact h1.trans (h2.symm.trans rfl)
          clear h hsz hdf
          go_wp2
          exact ⟨_, rfl, rfl, Ext.refl _⟩
        · -- 3: t71 := indexAddr 25 t69 t70 
          intro ac wx hE hsz hdf h
          have e69 : ac.tmps[69]? = some (.slice (some ⟨bb, ob, none⟩) n0 c5) := by obtain ⟨v, h1, h2⟩ := h 69 (by decide +kernel); rw [h1]; exact congrArg some h2
          have e70 : ac.tmps[70]? = some (.int .i64 k) := by obtain ⟨v, h1, h2⟩ := h 70 (by decide +kernel); rw [h1]; exact congrArg some h2
          clear h hsz hdf
          have hkn : (k : Int) < n0 := by omega
          go_wp2
          exact ⟨_, rfl, rfl, Ext.refl _⟩
        · -- 4: t72 := load 35 t71 
          intro ac wx hE hsz hdf h
          have e71 : ac.tmps[71]? = some (.pointer (some ⟨bb, ob + k * 5, none⟩)) := by obtain ⟨v, h1, h2⟩ := h 71 (by decide +kernel); rw [h1]; exact congrArg some h2
          clear h hsz hdf
          obtain ⟨y0, y1, y2, y3, y4⟩ := HY.out wx hE
          go_wp2
          exact ⟨_, rfl, rfl, Ext.refl _⟩
        · -- 5: t73 := call { value (Operand.func 19), args := #[t68, t72], argTypes := #[35, 35] } 
          intro ac wx hE hsz hdf h
          have e68 : ac.tmps[68]? = some (.agg #[.int .i64 t.kind, .int .i64 t.code, .int .i64 t.opt, .slice Aa na da, .bool t.cut]) := by obtain ⟨v, h1, h2⟩ := h 68 (by decide +kernel); rw [h1]; exact congrArg some h2
          have e72 : ac.tmps[72]? = some (.agg #[.int .i64 t.kind, .int .i64 t.code, .int .i64 t.opt, .slice Ab nb db, .bool t.cut]) := by obtain ⟨v, h1, h2⟩ := h 72 (by decide +kernel); rw [h1]; exact congrArg some h2
          clear h hsz hdf
          go_wp2_with ((go_at_call 19; refine (iacSame t t Aa Ab na da nb db _ (HA.out wx hE) (HB.out wx hE)).mono ?_; rintro e w' ⟨rfl, hb2⟩; rw [tokEq_refl]))
          exact ⟨_, rfl, rfl, hb2⟩
        · -- 6: t74 := unOp UnOp.not 4 t73 
          intro ac wx hE hsz hdf h
          have e73 : ac.tmps[73]? = some (.bool true) := by obtain ⟨v, h1, h2⟩ := h 73 (by decide +kernel); rw [h1]; exact congrArg some h2
          clear h hsz hdf
          go_wp2
          exact ⟨_, rfl, rfl, Ext.refl _⟩
        · intro a w9 hE hsz hdf h hrest
          obtain ⟨v0, s0, g0⟩ := h 0 _ rfl
          have e0 := g0 68 rfl
          obtain rfl : v0 = .agg #[.int .i64 t.kind, .int .i64 t.code, .int .i64 t.opt, .slice Aa na da, .bool t.cut] := s0
          obtain ⟨v1, s1, g1⟩ := h 1 _ rfl
          have e1 := g1 69 rfl
          obtain rfl : v1 = .slice (some ⟨bb, ob, none⟩) n0 c5 := s1
          obtain ⟨v2, s2, g2⟩ := h 2 _ rfl
          have e2 := g2 70 rfl
          obtain rfl : v2 = .int .i64 k := s2
          obtain ⟨v3, s3, g3⟩ := h 3 _ rfl
          have e3 := g3 71 rfl
          obtain rfl : v3 = .pointer (some ⟨bb, ob + k * 5, none⟩) := s3
          obtain ⟨v4, s4, g4⟩ := h 4 _ rfl
          have e4 := g4 72 rfl
          obtain rfl : v4 = .agg #[.int .i64 t.kind, .int .i64 t.code, .int .i64 t.opt, .slice Ab nb db, .bool t.cut] := s4
          obtain ⟨v5, s5, g5⟩ := h 5 _ rfl
          have e5 := g5 73 rfl
          obtain rfl : v5 = .bool true := s5
          obtain ⟨v6, s6, g6⟩ := h 6 _ rfl
          have e6 := g6 74 rfl
          obtain rfl : v6 = .bool false := s6
          have ha := act_of [(68, .agg #[.int .i64 t.kind, .int .i64 t.code, .int .i64 t.opt, .slice Aa na da, .bool t.cut]), (69, .slice (some ⟨bb, ob, none⟩) n0 c5), (70, .int .i64 k), (71, .pointer (some ⟨bb, ob + k * 5, none⟩)), (72, .agg #[.int .i64 t.kind, .int .i64 t.code, .int .i64 t.opt, .slice Ab nb db, .bool t.cut]), (73, .bool true), (74, .bool false)] rfl hsz hdf (by intro p hp; simp only [List.mem_cons, List.not_mem_nil, or_false] at hp; rcases hp with rfl | rfl | rfl | rfl | rfl | rfl | rfl <;> first | exact e0 | exact e1 | exact e2 | exact e3 | exact e4 | exact e5 | exact e6) hrest
          clear h hrest hsz hdf e0 e1 e2 e3 e4 e5 e6 g0 g1 g2 g3 g4 g5 g6
          subst ha
          simp only [List.foldl_cons, List.foldl_nil, Act.put, List.setIfInBounds_toArray, List.set_cons_succ, List.set_cons_zero]
          go_wp2
          exact ⟨⟨k + 1, by omega, by go_num, hbw.trans (Below.mono hE hbw.size)⟩, by simp [intOf]; omega⟩
        -- GAD IacJoins15
      · obtain rfl : k = n0 := by omega
        go_wp2
        go_ret
        exact ⟨rfl, hw7.trans hb⟩
end Go.Proofs.Ytbipkbpcjkgohaa
