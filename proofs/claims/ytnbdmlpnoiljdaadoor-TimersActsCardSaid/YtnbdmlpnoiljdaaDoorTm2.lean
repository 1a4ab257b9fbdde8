/- Timers: their order, and where one belongs. -/
import Derived.Test.YtnbdmlpnoiljdaaDoorTm1
import Derived.Test.YtnbdmlpnoiljdaaDoorInts
import Derived.Test.YtnbdmlpnoiljdaaDoorDag
import Derived.Test.YtnbdmlpnoiljdaaDoorActOf
namespace Go.Proofs.YtnbdmlpnoiljdaaDoor
open Go Go.RowKit

def cmpI (x y : Int) : Int := if x < y then -1 else if y < x then 1 else 0
def ordI (a b : Int × Int) : Int := if cmpI a.1 b.1 ≠ 0 then cmpI a.1 b.1 else cmpI a.2 b.2
/-- Is one due ahead of another? -/
def ltP (a b : Int × Int) : Prop := a.1 < b.1 ∨ (a.1 = b.1 ∧ a.2 < b.2)
theorem ordI_lt (a b : Int × Int) : ordI a b < 0 ↔ ltP a b := by
  unfold ordI ltP cmpI
  by_cases h1 : a.1 < b.1
  · simp [h1]
  · by_cases h2 : b.1 < a.1
    · simp [h1, h2]; omega
    · have he : a.1 = b.1 := by omega
      by_cases h3 : a.2 < b.2
      · simp [he, h3]
      · by_cases h4 : b.2 < a.2
        · simp [he, h3, h4]
        · simp [he, h3, h4]

theorem tmNan (x : Int) (w : World) : Calls Tryd.prog 89 #[.int .i64 x] w fun e w' => e = .returned (.bool false) ∧ w = w' := by
  go_enter Tryd.func89, Tryd.ntmps89
  go_wp2
  go_ret
  exact ⟨by simp, rfl⟩
set_option maxRecDepth 20000 in
theorem tmCompare (x y : Int) (w : World) : Calls Tryd.prog 86 #[.int .i64 x, .int .i64 y] w fun e w' => e = .returned (.int .i64 (cmpI x y)) ∧ w = w' := by
  obtain ⟨z, hz⟩ : ∃ z, cmpI x y = z := ⟨_, rfl⟩
  rw [hz]
  have HZ := Lib.hid hz
  clear hz
  go_enter Tryd.func86, Tryd.ntmps86
  by_cases h1 : x < y
  · have hzv : z = -1 := by rw [← HZ.out]; unfold cmpI; rw [if_pos h1]
    subst hzv
    go_wp2_with (first
      | (go_at_call 89; refine (tmNan y _).mono ?_; rintro e w' ⟨rfl, rfl⟩)
      | (go_at_call 89; refine (tmNan x _).mono ?_; rintro e w' ⟨rfl, rfl⟩))
    go_ret
    exact ⟨rfl, rfl⟩
  · by_cases h2 : y < x
    · have hzv : z = 1 := by rw [← HZ.out]; unfold cmpI; rw [if_neg h1, if_pos h2]
      subst hzv
      go_wp2_with (first
        | (go_at_call 89; refine (tmNan y _).mono ?_; rintro e w' ⟨rfl, rfl⟩)
        | (go_at_call 89; refine (tmNan x _).mono ?_; rintro e w' ⟨rfl, rfl⟩))
      go_ret
      exact ⟨rfl, rfl⟩
    · have hzv : z = 0 := by rw [← HZ.out]; unfold cmpI; rw [if_neg h1, if_neg h2]
      subst hzv
      go_wp2_with (first
        | (go_at_call 89; refine (tmNan y _).mono ?_; rintro e w' ⟨rfl, rfl⟩)
        | (go_at_call 89; refine (tmNan x _).mono ?_; rintro e w' ⟨rfl, rfl⟩))
      go_ret
      exact ⟨rfl, rfl⟩
set_option maxRecDepth 20000 in
theorem tmOr (x y : Int) (A : Option Addr) (c : Nat) (w : World) (hr : Rd w 1 A 2 (intsV [x, y])) : Calls Tryd.prog 85 #[.slice A 2 c] w fun e w' => e = .returned (.int .i64 (if x ≠ 0 then x else y)) ∧ w = w' := by
  obtain ⟨b, o, rfl, _, hc⟩ := hr.2 (by simp [intsV])
  have c0 : w.cell? ⟨b, o, none⟩ = some (.int .i64 x) := hc 0 _ rfl
  have c1 : w.cell? ⟨b, o + 1, none⟩ = some (.int .i64 y) := hc 1 _ rfl
  obtain ⟨z, hz⟩ : ∃ z, (if x ≠ 0 then x else y) = z := ⟨_, rfl⟩
  rw [hz]
  have HZ := Lib.hid hz
  clear hz hc hr
  go_enter Tryd.func85, Tryd.ntmps85
  go_wp2
  go_loop [8] (fun i => ∃ k : Nat, k ≤ 2 ∧ i = .int .i64 k ∧ (1 ≤ k → x = 0) ∧ (2 ≤ k → y = 0)) (fun i => 2 - (intOf i).toNat)
  case atStart => exact ⟨0, by omega, rfl, by omega, by omega⟩
  case round =>
    obtain ⟨k, hk, rfl, h1, h2⟩ := hrel
    by_cases hk0 : k = 0
    · subst hk0
      by_cases hx : x = 0
      · subst hx
        clear h1 h2
        go_wp2
        go_round
        case rel => exact ⟨1, by omega, by go_num, by simp, by omega⟩
        case measure => simp [intOf]
      · have hx' : (x == 0) = false := by simpa using hx
        have hzv : x = z := by rw [← HZ.out, if_pos hx]
        have HV := Lib.hid hzv
        clear h1 h2 hx hzv
        go_wp2
        go_ret
        exact ⟨by rw [← HV.out]; rfl, rfl⟩
    · by_cases hk1 : k = 1
      · subst hk1
        have hx := h1 (by omega)
        have hzv : y = z := by rw [← HZ.out, if_neg (by simp [hx])]
        have HV := Lib.hid hzv
        by_cases hy : y = 0
        · have HY := Lib.hid hy
          subst hy
          have HX := Lib.hid hx
          clear h1 h2 hx hzv
          go_wp2
          go_round
          case rel => exact ⟨2, by omega, by go_num, fun _ => HX.out, by simp⟩
          case measure => simp [intOf]
        · have hy' : (y == 0) = false := by simpa using hy
          clear h1 h2 hx hzv hy
          go_wp2
          go_ret
          exact ⟨by rw [← HV.out]; rfl, rfl⟩
      · obtain rfl : k = 2 := by omega
        have hx := h1 (by omega)
        have hy := h2 (by omega)
        have hzv : z = 0 := by rw [← HZ.out, if_neg (by simp [hx]), hy]
        have HV := Lib.hid hzv
        clear h1 h2 hx hy hzv
        go_wp2
        go_ret
        exact ⟨by rw [HV.out]; rfl, rfl⟩

set_option maxHeartbeats 1000000 in
set_option maxRecDepth 20000 in
/-- Which one is due first. -/
theorem tmOrder (a b : Int × Int) (w : World) : Calls Tryd.prog 73 #[.agg #[.int .i64 a.1, .int .i64 a.2], .agg #[.int .i64 b.1, .int .i64 b.2]] w fun e w' => e = .returned (.int .i64 (ordI a b)) ∧ Ext w w' := by
  go_enter Tryd.func73, Tryd.ntmps73
  go_wp2
  have hA := (Blk.new w 115 #[.int .i64 a.1, .int .i64 a.2]).alloc (.cells #[.int .i64 b.1, .int .i64 b.2] 115)
  have hB := Blk.new (w.alloc (.cells #[.int .i64 a.1, .int .i64 a.2] 115)) 115 #[.int .i64 b.1, .int .i64 b.2]
  have hx2 := (Ext.new1 w (.cells #[.int .i64 a.1, .int .i64 a.2] 115)).trans (Ext.new1 _ (.cells #[.int .i64 b.1, .int .i64 b.2] 115))
  have hsz : (w.alloc (.cells #[.int .i64 a.1, .int .i64 a.2] 115)).heap.size = w.heap.size + 1 := by simp
  rw [hsz] at hB
  generalize (w.alloc (.cells #[.int .i64 a.1, .int .i64 a.2] 115)).alloc (.cells #[.int .i64 b.1, .int .i64 b.2] 115) = w2 at *
  obtain ⟨pb, hpbe⟩ : ∃ p, w.heap.size + 1 = p := ⟨_, rfl⟩
  rw [hpbe] at hB ⊢
  obtain ⟨pa, hpae⟩ : ∃ p, w.heap.size = p := ⟨_, rfl⟩
  rw [hpae] at hA ⊢
  have hpa := hA.lt
  have hpb := hB.lt
  have a0 : w2.cell? ⟨pa, 0, none⟩ = some (.int .i64 a.1) := hA.cell 0
  have a1 : w2.cell? ⟨pa, 1, none⟩ = some (.int .i64 a.2) := hA.cell 1
  have b0 : w2.cell? ⟨pb, 0, none⟩ = some (.int .i64 b.1) := hB.cell 0
  have b1 : w2.cell? ⟨pb, 1, none⟩ = some (.int .i64 b.2) := hB.cell 1
  clear hA hB hsz hpbe hpae
  -- DAG TmOrder1
  refine wp_region_dag (E := Ext) (w0 := w2) (Φ := fun i v w => match i with | 0 => (v = .pointer (some ⟨pa, 0, none⟩)) | 1 => (v = .int .i64 a.1) | 2 => (v = .pointer (some ⟨pb, 0, none⟩)) | 3 => (v = .int .i64 b.1) | 4 => (v = .int .i64 (cmpI a.1 b.1)) | 5 => (v = .pointer (some ⟨pa, 1, none⟩)) | 6 => (v = .int .i64 a.2) | 7 => (v = .pointer (some ⟨pb, 1, none⟩)) | 8 => (v = .int .i64 b.2) | 9 => (v = .int .i64 (cmpI a.2 b.2)) | 10 => (∃ A, v = .slice A 2 2 ∧ Rd w 1 A 2 (intsV [cmpI a.1 b.1, cmpI a.2 b.2])) | 11 => (v = .int .i64 (ordI a b)) | 12 => (v = .int .i64 (ordI a b)) | _ => True) (show Tryd.prog.follows .mixedOrders = true from Checked.mixed Tryd.checked) 17 rfl (by decide +kernel) ?_ ((Below.refl _ _).drew) ?_ ⟨?_, ?_, ?_, ?_, ?_, ?_, ?_, ?_, ?_, ?_, ?_, ?_, ?_, trivial⟩ ?_
  · intro i v w w' h hE
    match i, h with
    | 0, h => exact h
    | 1, h => exact h
    | 2, h => exact h
    | 3, h => exact h
    | 4, h => exact h
    | 5, h => exact h
    | 6, h => exact h
    | 7, h => exact h
    | 8, h => exact h
    | 9, h => exact h
    | 10, h => exact (by obtain ⟨A, h1, h2⟩ := h; exact ⟨A, h1, h2.keep hE⟩)
    | 11, h => exact h
    | 12, h => exact h
    | _ + 13, _ => trivial
  · exact fun w w' h h' => h.trans h'
  · -- 0: t5 := fieldAddr 115 t2 0 
    intro ac wx hE hsz hdf h
    have e2 : ac.tmps[2]? = some (.pointer (some ⟨pa, 0, none⟩)) := by obtain ⟨v, h1, h2⟩ := h 2 (by decide +kernel); exact h1.trans (h2.symm.trans rfl)
    clear h hsz hdf
    go_wp2
    exact ⟨_, rfl, rfl, Ext.refl _⟩
  · -- 1: t6 := load 3 t5 
    intro ac wx hE hsz hdf h
    have e5 : ac.tmps[5]? = some (.pointer (some ⟨pa, 0, none⟩)) := by obtain ⟨v, h1, h2⟩ := h 5 (by decide +kernel); rw [h1]; exact congrArg some h2
    clear h hsz hdf
    have y := (hE.cell (p := ⟨pa, 0, none⟩) hpa).trans a0
    go_wp2
    exact ⟨_, rfl, rfl, Ext.refl _⟩
  · -- 2: t7 := fieldAddr 115 t3 0 
    intro ac wx hE hsz hdf h
    have e3 : ac.tmps[3]? = some (.pointer (some ⟨pb, 0, none⟩)) := by obtain ⟨v, h1, h2⟩ := h 3 (by decide +kernel); exact h1.trans (h2.symm.trans rfl)
    clear h hsz hdf
    go_wp2
    exact ⟨_, rfl, rfl, Ext.refl _⟩
  · -- 3: t8 := load 3 t7 
    intro ac wx hE hsz hdf h
    have e7 : ac.tmps[7]? = some (.pointer (some ⟨pb, 0, none⟩)) := by obtain ⟨v, h1, h2⟩ := h 7 (by decide +kernel); rw [h1]; exact congrArg some h2
    clear h hsz hdf
    have y := (hE.cell (p := ⟨pb, 0, none⟩) hpb).trans b0
    go_wp2
    exact ⟨_, rfl, rfl, Ext.refl _⟩
  · -- 4: t9 := call { value (Operand.func 86), args := #[t6, t8], argTypes := #[3, 3] } 
    intro ac wx hE hsz hdf h
    have e6 : ac.tmps[6]? = some (.int .i64 a.1) := by obtain ⟨v, h1, h2⟩ := h 6 (by decide +kernel); rw [h1]; exact congrArg some h2
    have e8 : ac.tmps[8]? = some (.int .i64 b.1) := by obtain ⟨v, h1, h2⟩ := h 8 (by decide +kernel); rw [h1]; exact congrArg some h2
    clear h hsz hdf
    go_wp2_with ((go_at_call 86; refine (tmCompare a.1 b.1 wx).mono ?_; rintro e w' ⟨rfl, rfl⟩))
    exact ⟨_, rfl, rfl, Ext.refl _⟩
  · -- 5: t10 := fieldAddr 115 t2 1 
    intro ac wx hE hsz hdf h
    have e2 : ac.tmps[2]? = some (.pointer (some ⟨pa, 0, none⟩)) := by obtain ⟨v, h1, h2⟩ := h 2 (by decide +kernel); exact h1.trans (h2.symm.trans rfl)
    clear h hsz hdf
    go_wp2
    exact ⟨_, rfl, rfl, Ext.refl _⟩
  · -- 6: t11 := load 3 t10 
    intro ac wx hE hsz hdf h
    have e10 : ac.tmps[10]? = some (.pointer (some ⟨pa, 1, none⟩)) := by obtain ⟨v, h1, h2⟩ := h 10 (by decide +kernel); rw [h1]; exact congrArg some h2
    clear h hsz hdf
    have y := (hE.cell (p := ⟨pa, 1, none⟩) hpa).trans a1
    go_wp2
    exact ⟨_, rfl, rfl, Ext.refl _⟩
  · -- 7: t12 := fieldAddr 115 t3 1 
    intro ac wx hE hsz hdf h
    have e3 : ac.tmps[3]? = some (.pointer (some ⟨pb, 0, none⟩)) := by obtain ⟨v, h1, h2⟩ := h 3 (by decide +kernel); exact h1.trans (h2.symm.trans rfl)
    clear h hsz hdf
    go_wp2
    exact ⟨_, rfl, rfl, Ext.refl _⟩
  · -- 8: t13 := load 3 t12 
    intro ac wx hE hsz hdf h
    have e12 : ac.tmps[12]? = some (.pointer (some ⟨pb, 1, none⟩)) := by obtain ⟨v, h1, h2⟩ := h 12 (by decide +kernel); rw [h1]; exact congrArg some h2
    clear h hsz hdf
    have y := (hE.cell (p := ⟨pb, 1, none⟩) hpb).trans b1
    go_wp2
    exact ⟨_, rfl, rfl, Ext.refl _⟩
  · -- 9: t14 := call { value (Operand.func 86), args := #[t11, t13], argTypes := #[3, 3] } 
    intro ac wx hE hsz hdf h
    have e11 : ac.tmps[11]? = some (.int .i64 a.2) := by obtain ⟨v, h1, h2⟩ := h 11 (by decide +kernel); rw [h1]; exact congrArg some h2
    have e13 : ac.tmps[13]? = some (.int .i64 b.2) := by obtain ⟨v, h1, h2⟩ := h 13 (by decide +kernel); rw [h1]; exact congrArg some h2
    clear h hsz hdf
    go_wp2_with ((go_at_call 86; refine (tmCompare a.2 b.2 wx).mono ?_; rintro e w' ⟨rfl, rfl⟩))
    exact ⟨_, rfl, rfl, Ext.refl _⟩
  · -- 10: t15 := buildSlice 43 2 #[(0, t9), (1, t14)] 
    intro ac wx hE hsz hdf h
    have e9 : ac.tmps[9]? = some (.int .i64 (cmpI a.1 b.1)) := by obtain ⟨v, h1, h2⟩ := h 9 (by decide +kernel); rw [h1]; exact congrArg some h2
    have e14 : ac.tmps[14]? = some (.int .i64 (cmpI a.2 b.2)) := by obtain ⟨v, h1, h2⟩ := h 14 (by decide +kernel); rw [h1]; exact congrArg some h2
    clear h hsz hdf
    go_wp2
    exact ⟨_, rfl, ⟨_, rfl, rd_newS wx 1 2 [.int .i64 (cmpI a.1 b.1), .int .i64 (cmpI a.2 b.2)] 3 rfl⟩, Ext.new1 _ _⟩
  · -- 11: t16 := call { value (Operand.func 85), args := #[t15], argTypes := #[43] } 
    intro ac wx hE hsz hdf h
    obtain ⟨v15, e15, s15⟩ : ∃ v, ac.tmps[15]? = some v ∧ (∃ A, v = .slice A 2 2 ∧ Rd wx 1 A 2 (intsV [cmpI a.1 b.1, cmpI a.2 b.2])) := h 15 (by decide +kernel)
    clear h hsz hdf
    obtain ⟨A, rfl, hrd⟩ := s15
    go_wp2_with ((go_at_call 85; refine ((tmOr _ _ A 2 wx hrd).mono (fun e w' h => (⟨h.1, h.2⟩ : e = .returned (.int .i64 (ordI a b)) ∧ wx = w'))).mono ?_; rintro e w' ⟨rfl, rfl⟩))
    exact ⟨_, rfl, rfl, Ext.refl _⟩
  · -- 12: t4 := assign t16 
    intro ac wx hE hsz hdf h
    have e16 : ac.tmps[16]? = some (.int .i64 (ordI a b)) := by obtain ⟨v, h1, h2⟩ := h 16 (by decide +kernel); rw [h1]; exact congrArg some h2
    clear h hsz hdf
    go_wp2
    exact ⟨_, rfl, rfl, Ext.refl _⟩
  · intro ac w9 hE hsz hdf h hrest
    obtain ⟨v0, s0, g0⟩ := h 0 _ rfl
    have e0 := g0 5 rfl
    obtain rfl : v0 = .pointer (some ⟨pa, 0, none⟩) := s0
    obtain ⟨v1, s1, g1⟩ := h 1 _ rfl
    have e1 := g1 6 rfl
    obtain rfl : v1 = .int .i64 a.1 := s1
    obtain ⟨v2, s2, g2⟩ := h 2 _ rfl
    have e2 := g2 7 rfl
    obtain rfl : v2 = .pointer (some ⟨pb, 0, none⟩) := s2
    obtain ⟨v3, s3, g3⟩ := h 3 _ rfl
    have e3 := g3 8 rfl
    obtain rfl : v3 = .int .i64 b.1 := s3
    obtain ⟨v4, s4, g4⟩ := h 4 _ rfl
    have e4 := g4 9 rfl
    obtain rfl : v4 = .int .i64 (cmpI a.1 b.1) := s4
    obtain ⟨v5, s5, g5⟩ := h 5 _ rfl
    have e5 := g5 10 rfl
    obtain rfl : v5 = .pointer (some ⟨pa, 1, none⟩) := s5
    obtain ⟨v6, s6, g6⟩ := h 6 _ rfl
    have e6 := g6 11 rfl
    obtain rfl : v6 = .int .i64 a.2 := s6
    obtain ⟨v7, s7, g7⟩ := h 7 _ rfl
    have e7 := g7 12 rfl
    obtain rfl : v7 = .pointer (some ⟨pb, 1, none⟩) := s7
    obtain ⟨v8, s8, g8⟩ := h 8 _ rfl
    have e8 := g8 13 rfl
    obtain rfl : v8 = .int .i64 b.2 := s8
    obtain ⟨v9, s9, g9⟩ := h 9 _ rfl
    have e9 := g9 14 rfl
    obtain rfl : v9 = .int .i64 (cmpI a.2 b.2) := s9
    obtain ⟨v10, s10, g10⟩ := h 10 _ rfl
    have e10 := g10 15 rfl
    replace s10 : ∃ A, v10 = .slice A 2 2 ∧ Rd w9 1 A 2 (intsV [cmpI a.1 b.1, cmpI a.2 b.2]) := s10
    obtain ⟨v11, s11, g11⟩ := h 11 _ rfl
    have e11 := g11 16 rfl
    obtain rfl : v11 = .int .i64 (ordI a b) := s11
    obtain ⟨v12, s12, g12⟩ := h 12 _ rfl
    have e12 := g12 4 rfl
    obtain rfl : v12 = .int .i64 (ordI a b) := s12
    have ha := act_of [(5, .pointer (some ⟨pa, 0, none⟩)), (6, .int .i64 a.1), (7, .pointer (some ⟨pb, 0, none⟩)), (8, .int .i64 b.1), (9, .int .i64 (cmpI a.1 b.1)), (10, .pointer (some ⟨pa, 1, none⟩)), (11, .int .i64 a.2), (12, .pointer (some ⟨pb, 1, none⟩)), (13, .int .i64 b.2), (14, .int .i64 (cmpI a.2 b.2)), (15, v10), (16, .int .i64 (ordI a b)), (4, .int .i64 (ordI a b))] rfl hsz hdf (by intro p hp; simp only [List.mem_cons, List.not_mem_nil, or_false] at hp; rcases hp with rfl | rfl | rfl | rfl | rfl | rfl | rfl | rfl | rfl | rfl | rfl | rfl | rfl <;> first | exact e0 | exact e1 | exact e2 | exact e3 | exact e4 | exact e5 | exact e6 | exact e7 | exact e8 | exact e9 | exact e10 | exact e11 | exact e12) hrest
    clear h hrest hsz hdf e0 e1 e2 e3 e4 e5 e6 e7 e8 e9 e10 e11 e12 g0 g1 g2 g3 g4 g5 g6 g7 g8 g9 g10 g11 g12
    subst ha
    simp only [List.foldl_cons, List.foldl_nil, Act.put, List.setIfInBounds_toArray, List.set_cons_succ, List.set_cons_zero]
  -- GAD TmOrder1
    have hxx := hx2.trans hE
    clear hE
    go_wp2
    go_ret
    exact ⟨rfl, hxx⟩
end Go.Proofs.YtnbdmlpnoiljdaaDoor
