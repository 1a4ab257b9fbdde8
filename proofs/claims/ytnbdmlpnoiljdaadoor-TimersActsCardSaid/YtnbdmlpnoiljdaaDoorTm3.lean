/- Timers: where one belongs; where a key stands. -/
import Derived.Test.YtnbdmlpnoiljdaaDoorTm2
import Derived.Test.YtnbdmlpnoiljdaaDoorDag
import Derived.Test.YtnbdmlpnoiljdaaDoorActOf
import Derived.Shelf.Abstract
namespace Go.Proofs.YtnbdmlpnoiljdaaDoor
open Go Go.RowKit

theorem ltP_trans {a b c : Int × Int} (h : ltP a b) (k : ltP b c) : ltP a c := by unfold ltP at *; omega
/-- Rising. -/
def sortP : List (Int × Int) → Prop
  | [] => True
  | x :: r => (∀ y ∈ r, ltP x y) ∧ sortP r
/-- Where one belongs. -/
def Place (L : List (Int × Int)) (x : Int × Int) (k : Nat) : Prop := k ≤ L.length ∧ (∀ (j : Nat) y, L[j]? = some y → j < k → ltP y x) ∧ (∀ (j : Nat) y, L[j]? = some y → k ≤ j → ¬ ltP y x)
theorem sort_at {L : List (Int × Int)} (h : sortP L) : ∀ {i j : Nat} {a b : Int × Int}, L[i]? = some a → L[j]? = some b → i < j → ltP a b := by
  induction L with
  | nil => intro i j a b hi; simp at hi
  | cons x r ih =>
    intro i j a b hi hj hij
    obtain ⟨h1, h2⟩ := h
    cases j with
    | zero => omega
    | succ j =>
      simp at hj
      cases i with
      | zero => simp at hi; subst hi; exact h1 b (List.mem_of_getElem? hj)
      | succ i => simp at hi; exact ih h2 hi hj (by omega)

set_option maxHeartbeats 2000000 in
set_option maxRecDepth 20000 in
theorem tmSearch {w : World} {A : Option Addr} {n c : Nat} {L : List (Int × Int)} (hr : Rd w 2 A n (tmC L)) (hs : sortP L) (x : Int × Int) (hn : n ≤ 1000000) :
    Calls Tryd.prog 72 #[.slice A n c, .agg #[.int .i64 x.1, .int .i64 x.2], .func (.func 73) #[] #[]] w fun e w' => ∃ (k : Nat) (b : Bool), e = .returned (.tuple #[.int .i64 k, .bool b]) ∧ Place L x k ∧ Ext w w' := by
  have hl : L.length = n := by have := hr.1; rw [tmC_len] at this; omega
  have hplace : ∀ lo hi : Nat, lo = hi → hi ≤ n → (∀ (j : Nat) y, L[j]? = some y → j < lo → ltP y x) → (∀ (j : Nat) y, L[j]? = some y → hi ≤ j → ¬ ltP y x) → Place L x lo := fun lo hi e h1 h2 h3 => ⟨by omega, h2, by rw [e]; exact h3⟩
  have HPL := Lib.hid hplace
  have HS := Lib.hid hs
  have HL := Lib.hid hl
  have HR := Lib.hid hr
  clear hr hs hl hplace
  go_enter Tryd.func72, Tryd.ntmps72
  go_wp2
  have hx1 := Ext.new1 w (.cells #[.int .i64 x.1, .int .i64 x.2] 115)
  have hB := Blk.new w 115 #[.int .i64 x.1, .int .i64 x.2]
  generalize w.alloc (.cells #[.int .i64 x.1, .int .i64 x.2] 115) = w1 at *
  obtain ⟨pt, hpte⟩ : ∃ p, w.heap.size = p := ⟨_, rfl⟩
  rw [hpte] at hB ⊢
  have hpt1 := hB.lt
  have t0' : w1.cell? ⟨pt, 0, none⟩ = some (.int .i64 x.1) := hB.cell 0
  have t1' : w1.cell? ⟨pt, 1, none⟩ = some (.int .i64 x.2) := hB.cell 1
  have HR1 := Lib.hid (HR.out.keep hx1)
  clear hpte hB
  go_loopw [9, 10] (fun s9 s10 wr => ∃ lo hi : Nat, s9 = .int .i64 lo ∧ s10 = .int .i64 hi ∧ lo ≤ hi ∧ hi ≤ n ∧ (∀ (j : Nat) y, L[j]? = some y → j < lo → ltP y x) ∧ (∀ (j : Nat) y, L[j]? = some y → hi ≤ j → ¬ ltP y x) ∧ Ext w1 wr) (fun s9 s10 _ => (intOf s10).toNat - (intOf s9).toNat)
  case atStart => exact ⟨0, n, rfl, rfl, Nat.zero_le _, Nat.le_refl _, fun j y _ h => by omega, fun j y h h' => by have := (List.getElem?_eq_some_iff.1 h).1; rw [HL.out] at this; omega, Ext.refl _⟩
  case round =>
    obtain ⟨lo, hi, rfl, rfl, hlh, hhn, h1, h2, hx⟩ := hrel
    have H1 := Lib.hid h1
    have H2 := Lib.hid h2
    have t0 := (hx.cell (p := ⟨pt, 0, none⟩) hpt1).trans t0'
    have t1 := (hx.cell (p := ⟨pt, 1, none⟩) hpt1).trans t1'
    have hpt : pt < wr.heap.size := Nat.lt_of_lt_of_le hpt1 hx.size
    clear h1 h2
    by_cases hlt : lo < hi
    · obtain ⟨md, hh⟩ : ∃ md, md = (lo + hi) / 2 := ⟨_, rfl⟩
      have hmid : ((lo : Int) + (hi : Int)) / 2 = (md : Int) := by omega
      have hb : lo ≤ md ∧ md < hi := by omega
      obtain ⟨y, hy⟩ : ∃ y, L[md]? = some y := ⟨_, List.getElem?_eq_getElem (by rw [HL.out]; omega)⟩
      obtain ⟨bA, oA, rfl, hbA1, hcA⟩ := HR1.out.2 (by rw [tmC_len, HL.out]; omega)
      obtain ⟨g0, g1⟩ := tmC_get hy
      have hbA : bA < wr.heap.size := Nat.lt_of_lt_of_le hbA1 hx.size
      have z0 := (hx.cell (p := ⟨bA, _, none⟩) hbA1).trans (hcA _ _ g0)
      have z1 := (hx.cell (p := ⟨bA, _, none⟩) hbA1).trans (hcA _ _ g1)
      have HY := Lib.hid hy
      have HMID := Lib.hid hmid
      clear hcA g0 g1 hy hh hmid
      go_wp2
      rw [HMID.out]
      -- DAG TmBs5
      refine wp_region_dag (E := Ext) (w0 := wr) (Φ := fun i v w => match i with | 0 => (v = .func (.func 73) #[] #[]) | 1 => (v = .slice (some ⟨bA, oA, none⟩) n c) | 2 => (v = .int .i64 md) | 3 => (v = .pointer (some ⟨bA, oA + md * 2, none⟩)) | 4 => (v = .agg #[.int .i64 y.1, .int .i64 y.2]) | 5 => (v = .agg #[.int .i64 x.1, .int .i64 x.2]) | 6 => (v = .int .i64 (ordI y x)) | 7 => (v = .bool (decide (ordI y x < 0))) | _ => True) (show Tryd.prog.follows .mixedOrders = true from Checked.mixed Tryd.checked) 49 rfl (by decide +kernel) ?_ ((Below.refl _ _).drew) ?_ ⟨?_, ?_, ?_, ?_, ?_, ?_, ?_, ?_, trivial⟩ ?_
      · intro i v w w' h hE
        match i, h with
        | 0, h => exact h
        | 1, h => exact h
        | 2, h => exact h
        | 3, h => exact h
        | 4, h => exact h
        | 5, h => exact h
        | 6, h => exact h
        | 7, h => exact h
        | _ + 8, _ => trivial
      · exact fun w w' h h' => h.trans h'
      · -- 0: t24 := move t2 
        intro ac wx hE hsz hdf h
        have e2 : ac.tmps[2]? = some (.func (.func 73) #[] #[]) := by obtain ⟨v, h1, h2⟩ := h 2 (by decide +kernel); exact h1.trans (h2.symm.trans rfl)
        clear h hsz hdf
        go_wp2
        exact ⟨_, rfl, rfl, Ext.refl _⟩
      · -- 1: t25 := move t0 
        intro ac wx hE hsz hdf h
        have e0 : ac.tmps[0]? = some (.slice (some ⟨bA, oA, none⟩) n c) := by obtain ⟨v, h1, h2⟩ := h 0 (by decide +kernel); exact h1.trans (h2.symm.trans rfl)
        clear h hsz hdf
        go_wp2
        exact ⟨_, rfl, rfl, Ext.refl _⟩
      · -- 2: t26 := move t11 
        intro ac wx hE hsz hdf h
        have e11 : ac.tmps[11]? = some (.int .i64 md) := by obtain ⟨v, h1, h2⟩ := h 11 (by decide +kernel); exact h1.trans (h2.symm.trans rfl)
        clear h hsz hdf
        go_wp2
        exact ⟨_, rfl, rfl, Ext.refl _⟩
      · -- 3: t27 := indexAddr 111 t25 t26 
        intro ac wx hE hsz hdf h
        have e25 : ac.tmps[25]? = some (.slice (some ⟨bA, oA, none⟩) n c) := by obtain ⟨v, h1, h2⟩ := h 25 (by decide +kernel); rw [h1]; exact congrArg some h2
        have e26 : ac.tmps[26]? = some (.int .i64 md) := by obtain ⟨v, h1, h2⟩ := h 26 (by decide +kernel); rw [h1]; exact congrArg some h2
        clear h hsz hdf
        go_wp2
        exact ⟨_, rfl, rfl, Ext.refl _⟩
      · -- 4: t28 := load 115 t27 
        intro ac wx hE hsz hdf h
        have e27 : ac.tmps[27]? = some (.pointer (some ⟨bA, oA + md * 2, none⟩)) := by obtain ⟨v, h1, h2⟩ := h 27 (by decide +kernel); rw [h1]; exact congrArg some h2
        clear h hsz hdf
        have y1 := (hE.cell (p := ⟨bA, _, none⟩) hbA).trans z0; have y2 : wx.cell? ⟨bA, oA + md * 2 + 1, none⟩ = some (.int .i64 y.2) := (hE.cell (p := ⟨bA, _, none⟩) hbA).trans z1
        go_wp2
        exact ⟨_, rfl, rfl, Ext.refl _⟩
      · -- 5: t29 := load 115 t4 
        intro ac wx hE hsz hdf h
        have e4 : ac.tmps[4]? = some (.pointer (some ⟨pt, 0, none⟩)) := by obtain ⟨v, h1, h2⟩ := h 4 (by decide +kernel); exact h1.trans (h2.symm.trans rfl)
        clear h hsz hdf
        have y1 := (hE.cell (p := ⟨pt, 0, none⟩) hpt).trans t0; have y2 := (hE.cell (p := ⟨pt, 1, none⟩) hpt).trans t1
        go_wp2
        exact ⟨_, rfl, rfl, Ext.refl _⟩
      · -- 6: t30 := call { value t24, args := #[t28, t29], argTypes := #[115, 115] } 
        intro ac wx hE hsz hdf h
        have e24 : ac.tmps[24]? = some (.func (.func 73) #[] #[]) := by obtain ⟨v, h1, h2⟩ := h 24 (by decide +kernel); rw [h1]; exact congrArg some h2
        have e28 : ac.tmps[28]? = some (.agg #[.int .i64 y.1, .int .i64 y.2]) := by obtain ⟨v, h1, h2⟩ := h 28 (by decide +kernel); rw [h1]; exact congrArg some h2
        have e29 : ac.tmps[29]? = some (.agg #[.int .i64 x.1, .int .i64 x.2]) := by obtain ⟨v, h1, h2⟩ := h 29 (by decide +kernel); rw [h1]; exact congrArg some h2
        clear h hsz hdf
        go_wp2_with ((go_at_call 73; refine (tmOrder y x wx).mono ?_; rintro e w' ⟨rfl, hx9⟩))
        exact ⟨_, rfl, rfl, hx9⟩
      · -- 7: t31 := binOp BinOp.lss 3 t30 (const (0:i64)) 3 
        intro ac wx hE hsz hdf h
        have e30 : ac.tmps[30]? = some (.int .i64 (ordI y x)) := by obtain ⟨v, h1, h2⟩ := h 30 (by decide +kernel); rw [h1]; exact congrArg some h2
        clear h hsz hdf
        go_wp2
        exact ⟨_, rfl, rfl, Ext.refl _⟩
      · intro ac w9 hE hsz hdf h hrest
        obtain ⟨v0, s0, g0⟩ := h 0 _ rfl
        have e0 := g0 24 rfl
        obtain rfl : v0 = .func (.func 73) #[] #[] := s0
        obtain ⟨v1, s1, g1⟩ := h 1 _ rfl
        have e1 := g1 25 rfl
        obtain rfl : v1 = .slice (some ⟨bA, oA, none⟩) n c := s1
        obtain ⟨v2, s2, g2⟩ := h 2 _ rfl
        have e2 := g2 26 rfl
        obtain rfl : v2 = .int .i64 md := s2
        obtain ⟨v3, s3, g3⟩ := h 3 _ rfl
        have e3 := g3 27 rfl
        obtain rfl : v3 = .pointer (some ⟨bA, oA + md * 2, none⟩) := s3
        obtain ⟨v4, s4, g4⟩ := h 4 _ rfl
        have e4 := g4 28 rfl
        obtain rfl : v4 = .agg #[.int .i64 y.1, .int .i64 y.2] := s4
        obtain ⟨v5, s5, g5⟩ := h 5 _ rfl
        have e5 := g5 29 rfl
        obtain rfl : v5 = .agg #[.int .i64 x.1, .int .i64 x.2] := s5
        obtain ⟨v6, s6, g6⟩ := h 6 _ rfl
        have e6 := g6 30 rfl
        obtain rfl : v6 = .int .i64 (ordI y x) := s6
        obtain ⟨v7, s7, g7⟩ := h 7 _ rfl
        have e7 := g7 31 rfl
        obtain rfl : v7 = .bool (decide (ordI y x < 0)) := s7
        have ha := act_of [(24, .func (.func 73) #[] #[]), (25, .slice (some ⟨bA, oA, none⟩) n c), (26, .int .i64 md), (27, .pointer (some ⟨bA, oA + md * 2, none⟩)), (28, .agg #[.int .i64 y.1, .int .i64 y.2]), (29, .agg #[.int .i64 x.1, .int .i64 x.2]), (30, .int .i64 (ordI y x)), (31, .bool (decide (ordI y x < 0)))] rfl hsz hdf (by intro p hp; simp only [List.mem_cons, List.not_mem_nil, or_false] at hp; rcases hp with rfl | rfl | rfl | rfl | rfl | rfl | rfl | rfl <;> first | exact e0 | exact e1 | exact e2 | exact e3 | exact e4 | exact e5 | exact e6 | exact e7) hrest
        clear h hrest hsz hdf e0 e1 e2 e3 e4 e5 e6 e7 g0 g1 g2 g3 g4 g5 g6 g7
        subst ha
        simp only [List.foldl_cons, List.foldl_nil, Act.put, List.setIfInBounds_toArray, List.set_cons_succ, List.set_cons_zero]
      -- GAD TmBs5
        have hxx := hx.trans hE
        clear hE
        by_cases hlt2 : ordI y x < 0
        · have hyx := (ordI_lt y x).1 hlt2
          have hd : decide (ordI y x < 0) = true := decide_eq_true hlt2
          have n1 : ∀ (j : Nat) z, L[j]? = some z → j < md + 1 → ltP z x := fun j z hz hj => by
            by_cases he : j = md
            · subst he; rw [HY.out] at hz; cases hz; exact hyx
            · exact ltP_trans (sort_at HS.out hz HY.out (by omega)) hyx
          have N1 := Lib.hid n1
          rw [hd]
          clear hlt2 hyx hd n1
          go_wp2
          go_roundw
          case rel => exact ⟨md + 1, hi, by go_num, rfl, by omega, hhn, N1.out, H2.out, hxx⟩
          case measure => simp [intOf]; omega
        · have hyx : ¬ ltP y x := fun h => hlt2 ((ordI_lt y x).2 h)
          have hd : decide (ordI y x < 0) = false := decide_eq_false hlt2
          have n2 : ∀ (j : Nat) z, L[j]? = some z → md ≤ j → ¬ ltP z x := fun j z hz hj hzx => by
            by_cases he : j = md
            · subst he; rw [HY.out] at hz; cases hz; exact hyx hzx
            · exact hyx (ltP_trans (sort_at HS.out HY.out hz (by omega)) hzx)
          have N2 := Lib.hid n2
          rw [hd]
          clear hlt2 hyx hd n2
          go_wp2
          go_roundw
          case rel => exact ⟨lo, md, rfl, rfl, by omega, by omega, H1.out, N2.out, hxx⟩
          case measure => simp [intOf]; omega
    · have hle : lo = hi := by omega
      subst hle
      have hPL := HPL.out lo lo rfl hhn H1.out H2.out
      have HPP := Lib.hid hPL
      clear hPL
      by_cases hln : lo < n
      · obtain ⟨y, hy⟩ : ∃ y, L[lo]? = some y := ⟨_, List.getElem?_eq_getElem (by rw [HL.out]; omega)⟩
        obtain ⟨bA, oA, rfl, hbA1, hcA⟩ := HR1.out.2 (by rw [tmC_len, HL.out]; omega)
        obtain ⟨g0, g1⟩ := tmC_get hy
        have hbA : bA < wr.heap.size := Nat.lt_of_lt_of_le hbA1 hx.size
        have z0 := (hx.cell (p := ⟨bA, _, none⟩) hbA1).trans (hcA _ _ g0)
        have z1 := (hx.cell (p := ⟨bA, _, none⟩) hbA1).trans (hcA _ _ g1)
        clear hcA g0 g1 hy
        go_wp2
        -- DAG TmBs8t
        refine wp_region_dag (E := Ext) (w0 := wr) (Φ := fun i v w => match i with | 0 => (v = .int .i64 lo) | 1 => (v = .int .i64 lo) | 2 => (v = .int .i64 n) | 3 => (v = .bool true) | 4 => (v = .bool true) | 5 => (v = .func (.func 73) #[] #[]) | 6 => (v = .slice (some ⟨bA, oA, none⟩) n c) | 7 => (v = .int .i64 lo) | 8 => (v = .pointer (some ⟨bA, oA + lo * 2, none⟩)) | 9 => (v = .agg #[.int .i64 y.1, .int .i64 y.2]) | 10 => (v = .agg #[.int .i64 x.1, .int .i64 x.2]) | 11 => (v = .int .i64 (ordI y x)) | 12 => (v = .bool (ordI y x == 0)) | 13 => (v = .bool (ordI y x == 0)) | 14 => (v = .int .i64 lo) | 15 => (v = .bool (ordI y x == 0)) | _ => True) (show Tryd.prog.follows .mixedOrders = true from Checked.mixed Tryd.checked) 49 rfl (by decide +kernel) ?_ ((Below.refl _ _).drew) ?_ ⟨?_, ?_, ?_, ?_, ?_, ?_, ?_, ?_, ?_, ?_, ?_, ?_, ?_, ?_, ?_, ?_, trivial⟩ ?_
        · intro i v w w' h hE
          match i, h with
          | 0, h => exact h
          | 1, h => exact h
          | 2, h => exact h
          | 3, h => exact h
          | 4, h => exact h
          | 5, h => exact h
          | 6, h => exact h
          | 7, h => exact h
          | 8, h => exact h
          | 9, h => exact h
          | 10, h => exact h
          | 11, h => exact h
          | 12, h => exact h
          | 13, h => exact h
          | 14, h => exact h
          | 15, h => exact h
          | _ + 16, _ => trivial
        · exact fun w w' h h' => h.trans h'
        · -- 0: t35 := move t9 
          intro ac wx hE hsz hdf h
          have e9 : ac.tmps[9]? = some (.int .i64 lo) := by obtain ⟨v, h1, h2⟩ := h 9 (by decide +kernel); exact h1.trans (h2.symm.trans rfl)
          clear h hsz hdf
          go_wp2
          exact ⟨_, rfl, rfl, Ext.refl _⟩
        · -- 1: t36 := move t9 
          intro ac wx hE hsz hdf h
          have e9 : ac.tmps[9]? = some (.int .i64 lo) := by obtain ⟨v, h1, h2⟩ := h 9 (by decide +kernel); exact h1.trans (h2.symm.trans rfl)
          clear h hsz hdf
          go_wp2
          exact ⟨_, rfl, rfl, Ext.refl _⟩
        · -- 2: t37 := move t8 
          intro ac wx hE hsz hdf h
          have e8 : ac.tmps[8]? = some (.int .i64 n) := by obtain ⟨v, h1, h2⟩ := h 8 (by decide +kernel); exact h1.trans (h2.symm.trans rfl)
          clear h hsz hdf
          go_wp2
          exact ⟨_, rfl, rfl, Ext.refl _⟩
        · -- 3: t38 := binOp BinOp.lss 3 t36 t37 3 
          intro ac wx hE hsz hdf h
          have e36 : ac.tmps[36]? = some (.int .i64 lo) := by obtain ⟨v, h1, h2⟩ := h 36 (by decide +kernel); rw [h1]; exact congrArg some h2
          have e37 : ac.tmps[37]? = some (.int .i64 n) := by obtain ⟨v, h1, h2⟩ := h 37 (by decide +kernel); rw [h1]; exact congrArg some h2
          clear h hsz hdf
          go_wp2
          exact ⟨_, rfl, by simp <;> omega, Ext.refl _⟩
        · -- 4: t39 := move t38 
          intro ac wx hE hsz hdf h
          have e38 : ac.tmps[38]? = some (.bool true) := by obtain ⟨v, h1, h2⟩ := h 38 (by decide +kernel); rw [h1]; exact congrArg some h2
          clear h hsz hdf
          go_wp2
          exact ⟨_, rfl, rfl, Ext.refl _⟩
        · -- 5: t40 := move t2 (4, True)
          intro ac wx hE hsz hdf h
          have e2 : ac.tmps[2]? = some (.func (.func 73) #[] #[]) := by obtain ⟨v, h1, h2⟩ := h 2 (by decide +kernel); exact h1.trans (h2.symm.trans rfl)
          have e39 : ac.tmps[39]? = some (.bool true) := by obtain ⟨v, h1, h2⟩ := h 39 (by decide +kernel); rw [h1]; exact congrArg some h2
          clear h hsz hdf
          go_wp2
          exact ⟨_, rfl, rfl, Ext.refl _⟩
        · -- 6: t41 := move t0 (4, True)
          intro ac wx hE hsz hdf h
          have e0 : ac.tmps[0]? = some (.slice (some ⟨bA, oA, none⟩) n c) := by obtain ⟨v, h1, h2⟩ := h 0 (by decide +kernel); exact h1.trans (h2.symm.trans rfl)
          have e39 : ac.tmps[39]? = some (.bool true) := by obtain ⟨v, h1, h2⟩ := h 39 (by decide +kernel); rw [h1]; exact congrArg some h2
          clear h hsz hdf
          go_wp2
          exact ⟨_, rfl, rfl, Ext.refl _⟩
        · -- 7: t42 := move t9 (4, True)
          intro ac wx hE hsz hdf h
          have e9 : ac.tmps[9]? = some (.int .i64 lo) := by obtain ⟨v, h1, h2⟩ := h 9 (by decide +kernel); exact h1.trans (h2.symm.trans rfl)
          have e39 : ac.tmps[39]? = some (.bool true) := by obtain ⟨v, h1, h2⟩ := h 39 (by decide +kernel); rw [h1]; exact congrArg some h2
          clear h hsz hdf
          go_wp2
          exact ⟨_, rfl, rfl, Ext.refl _⟩
        · -- 8: t43 := indexAddr 111 t41 t42 (4, True)
          intro ac wx hE hsz hdf h
          have e41 : ac.tmps[41]? = some (.slice (some ⟨bA, oA, none⟩) n c) := by obtain ⟨v, h1, h2⟩ := h 41 (by decide +kernel); rw [h1]; exact congrArg some h2
          have e42 : ac.tmps[42]? = some (.int .i64 lo) := by obtain ⟨v, h1, h2⟩ := h 42 (by decide +kernel); rw [h1]; exact congrArg some h2
          have e39 : ac.tmps[39]? = some (.bool true) := by obtain ⟨v, h1, h2⟩ := h 39 (by decide +kernel); rw [h1]; exact congrArg some h2
          clear h hsz hdf
          go_wp2
          exact ⟨_, rfl, rfl, Ext.refl _⟩
        · -- 9: t44 := load 115 t43 (4, True)
          intro ac wx hE hsz hdf h
          have e43 : ac.tmps[43]? = some (.pointer (some ⟨bA, oA + lo * 2, none⟩)) := by obtain ⟨v, h1, h2⟩ := h 43 (by decide +kernel); rw [h1]; exact congrArg some h2
          have e39 : ac.tmps[39]? = some (.bool true) := by obtain ⟨v, h1, h2⟩ := h 39 (by decide +kernel); rw [h1]; exact congrArg some h2
          clear h hsz hdf
          have y1 := (hE.cell (p := ⟨bA, _, none⟩) hbA).trans z0; have y2 : wx.cell? ⟨bA, oA + lo * 2 + 1, none⟩ = some (.int .i64 y.2) := (hE.cell (p := ⟨bA, _, none⟩) hbA).trans z1
          go_wp2
          exact ⟨_, rfl, rfl, Ext.refl _⟩
        · -- 10: t45 := load 115 t4 (4, True)
          intro ac wx hE hsz hdf h
          have e4 : ac.tmps[4]? = some (.pointer (some ⟨pt, 0, none⟩)) := by obtain ⟨v, h1, h2⟩ := h 4 (by decide +kernel); exact h1.trans (h2.symm.trans rfl)
          have e39 : ac.tmps[39]? = some (.bool true) := by obtain ⟨v, h1, h2⟩ := h 39 (by decide +kernel); rw [h1]; exact congrArg some h2
          clear h hsz hdf
          have y1 := (hE.cell (p := ⟨pt, 0, none⟩) hpt).trans t0; have y2 := (hE.cell (p := ⟨pt, 1, none⟩) hpt).trans t1
          go_wp2
          exact ⟨_, rfl, rfl, Ext.refl _⟩
        · -- 11: t46 := call { value t40, args := #[t44, t45], argTypes := #[115, 115] } (4, True)
          intro ac wx hE hsz hdf h
          have e40 : ac.tmps[40]? = some (.func (.func 73) #[] #[]) := by obtain ⟨v, h1, h2⟩ := h 40 (by decide +kernel); rw [h1]; exact congrArg some h2
          have e44 : ac.tmps[44]? = some (.agg #[.int .i64 y.1, .int .i64 y.2]) := by obtain ⟨v, h1, h2⟩ := h 44 (by decide +kernel); rw [h1]; exact congrArg some h2
          have e45 : ac.tmps[45]? = some (.agg #[.int .i64 x.1, .int .i64 x.2]) := by obtain ⟨v, h1, h2⟩ := h 45 (by decide +kernel); rw [h1]; exact congrArg some h2
          have e39 : ac.tmps[39]? = some (.bool true) := by obtain ⟨v, h1, h2⟩ := h 39 (by decide +kernel); rw [h1]; exact congrArg some h2
          clear h hsz hdf
          go_wp2_with ((go_at_call 73; refine (tmOrder y x wx).mono ?_; rintro e w' ⟨rfl, hx9⟩))
          exact ⟨_, rfl, rfl, hx9⟩
        · -- 12: t47 := binOp BinOp.eql 3 t46 (const (0:i64)) 3 (4, True)
          intro ac wx hE hsz hdf h
          have e46 : ac.tmps[46]? = some (.int .i64 (ordI y x)) := by obtain ⟨v, h1, h2⟩ := h 46 (by decide +kernel); rw [h1]; exact congrArg some h2
          have e39 : ac.tmps[39]? = some (.bool true) := by obtain ⟨v, h1, h2⟩ := h 39 (by decide +kernel); rw [h1]; exact congrArg some h2
          clear h hsz hdf
          go_wp2
          exact ⟨_, rfl, by simp, Ext.refl _⟩
        · -- 13: t48 := pick t39 t47 (const (Value.bool false)) 
          intro ac wx hE hsz hdf h
          have e39 : ac.tmps[39]? = some (.bool true) := by obtain ⟨v, h1, h2⟩ := h 39 (by decide +kernel); rw [h1]; exact congrArg some h2
          have e47 : ac.tmps[47]? = some (.bool (ordI y x == 0)) := by obtain ⟨v, h1, h2⟩ := h 47 (by decide +kernel); rw [h1]; exact congrArg some h2
          clear h hsz hdf
          go_wp2
          exact ⟨_, rfl, rfl, Ext.refl _⟩
        · -- 14: t6 := assign t35 
          intro ac wx hE hsz hdf h
          have e35 : ac.tmps[35]? = some (.int .i64 lo) := by obtain ⟨v, h1, h2⟩ := h 35 (by decide +kernel); rw [h1]; exact congrArg some h2
          clear h hsz hdf
          go_wp2
          exact ⟨_, rfl, rfl, Ext.refl _⟩
        · -- 15: t7 := assign t48 
          intro ac wx hE hsz hdf h
          have e48 : ac.tmps[48]? = some (.bool (ordI y x == 0)) := by obtain ⟨v, h1, h2⟩ := h 48 (by decide +kernel); rw [h1]; exact congrArg some h2
          clear h hsz hdf
          go_wp2
          exact ⟨_, rfl, rfl, Ext.refl _⟩
        · intro ac w9 hE hsz hdf h hrest
          obtain ⟨v0, s0, g0⟩ := h 0 _ rfl
          have e0 := g0 35 rfl
          obtain rfl : v0 = .int .i64 lo := s0
          obtain ⟨v1, s1, g1⟩ := h 1 _ rfl
          have e1 := g1 36 rfl
          obtain rfl : v1 = .int .i64 lo := s1
          obtain ⟨v2, s2, g2⟩ := h 2 _ rfl
          have e2 := g2 37 rfl
          obtain rfl : v2 = .int .i64 n := s2
          obtain ⟨v3, s3, g3⟩ := h 3 _ rfl
          have e3 := g3 38 rfl
          obtain rfl : v3 = .bool true := s3
          obtain ⟨v4, s4, g4⟩ := h 4 _ rfl
          have e4 := g4 39 rfl
          obtain rfl : v4 = .bool true := s4
          obtain ⟨v5, s5, g5⟩ := h 5 _ rfl
          have e5 := g5 40 rfl
          obtain rfl : v5 = .func (.func 73) #[] #[] := s5
          obtain ⟨v6, s6, g6⟩ := h 6 _ rfl
          have e6 := g6 41 rfl
          obtain rfl : v6 = .slice (some ⟨bA, oA, none⟩) n c := s6
          obtain ⟨v7, s7, g7⟩ := h 7 _ rfl
          have e7 := g7 42 rfl
          obtain rfl : v7 = .int .i64 lo := s7
          obtain ⟨v8, s8, g8⟩ := h 8 _ rfl
          have e8 := g8 43 rfl
          obtain rfl : v8 = .pointer (some ⟨bA, oA + lo * 2, none⟩) := s8
          obtain ⟨v9, s9, g9⟩ := h 9 _ rfl
          have e9 := g9 44 rfl
          obtain rfl : v9 = .agg #[.int .i64 y.1, .int .i64 y.2] := s9
          obtain ⟨v10, s10, g10⟩ := h 10 _ rfl
          have e10 := g10 45 rfl
          obtain rfl : v10 = .agg #[.int .i64 x.1, .int .i64 x.2] := s10
          obtain ⟨v11, s11, g11⟩ := h 11 _ rfl
          have e11 := g11 46 rfl
          obtain rfl : v11 = .int .i64 (ordI y x) := s11
          obtain ⟨v12, s12, g12⟩ := h 12 _ rfl
          have e12 := g12 47 rfl
          obtain rfl : v12 = .bool (ordI y x == 0) := s12
          obtain ⟨v13, s13, g13⟩ := h 13 _ rfl
          have e13 := g13 48 rfl
          obtain rfl : v13 = .bool (ordI y x == 0) := s13
          obtain ⟨v14, s14, g14⟩ := h 14 _ rfl
          have e14 := g14 6 rfl
          obtain rfl : v14 = .int .i64 lo := s14
          obtain ⟨v15, s15, g15⟩ := h 15 _ rfl
          have e15 := g15 7 rfl
          obtain rfl : v15 = .bool (ordI y x == 0) := s15
          have ha := act_of [(35, .int .i64 lo), (36, .int .i64 lo), (37, .int .i64 n), (38, .bool true), (39, .bool true), (40, .func (.func 73) #[] #[]), (41, .slice (some ⟨bA, oA, none⟩) n c), (42, .int .i64 lo), (43, .pointer (some ⟨bA, oA + lo * 2, none⟩)), (44, .agg #[.int .i64 y.1, .int .i64 y.2]), (45, .agg #[.int .i64 x.1, .int .i64 x.2]), (46, .int .i64 (ordI y x)), (47, .bool (ordI y x == 0)), (48, .bool (ordI y x == 0)), (6, .int .i64 lo), (7, .bool (ordI y x == 0))] rfl hsz hdf (by intro p hp; simp only [List.mem_cons, List.not_mem_nil, or_false] at hp; rcases hp with rfl | rfl | rfl | rfl | rfl | rfl | rfl | rfl | rfl | rfl | rfl | rfl | rfl | rfl | rfl | rfl <;> first | exact e0 | exact e1 | exact e2 | exact e3 | exact e4 | exact e5 | exact e6 | exact e7 | exact e8 | exact e9 | exact e10 | exact e11 | exact e12 | exact e13 | exact e14 | exact e15) hrest
          clear h hrest hsz hdf e0 e1 e2 e3 e4 e5 e6 e7 e8 e9 e10 e11 e12 e13 e14 e15 g0 g1 g2 g3 g4 g5 g6 g7 g8 g9 g10 g11 g12 g13 g14 g15
          subst ha
          simp only [List.foldl_cons, List.foldl_nil, Act.put, List.setIfInBounds_toArray, List.set_cons_succ, List.set_cons_zero]
        -- GAD TmBs8t
          have hxx := (hx1.trans hx).trans hE
          clear hE
          go_wp2
          go_ret2
          exact ⟨lo, _, rfl, HPP.out, hxx⟩
      · go_wp2
        -- DAG TmBs8f
        refine wp_region_dag (E := Ext) (w0 := wr) (Φ := fun i v w => match i with | 0 => (v = .int .i64 lo) | 1 => (v = .int .i64 lo) | 2 => (v = .int .i64 n) | 3 => (v = .bool false) | 4 => (v = .bool false) | 5 => (v = undef) | 6 => (v = undef) | 7 => (v = undef) | 8 => (v = undef) | 9 => (v = undef) | 10 => (v = undef) | 11 => (v = undef) | 12 => (v = undef) | 13 => (v = .bool false) | 14 => (v = .int .i64 lo) | 15 => (v = .bool false) | _ => True) (show Tryd.prog.follows .mixedOrders = true from Checked.mixed Tryd.checked) 49 rfl (by decide +kernel) ?_ ((Below.refl _ _).drew) ?_ ⟨?_, ?_, ?_, ?_, ?_, ?_, ?_, ?_, ?_, ?_, ?_, ?_, ?_, ?_, ?_, ?_, trivial⟩ ?_
        · intro i v w w' h hE
          match i, h with
          | 0, h => exact h
          | 1, h => exact h
          | 2, h => exact h
          | 3, h => exact h
          | 4, h => exact h
          | 5, h => exact h
          | 6, h => exact h
          | 7, h => exact h
          | 8, h => exact h
          | 9, h => exact h
          | 10, h => exact h
          | 11, h => exact h
          | 12, h => exact h
          | 13, h => exact h
          | 14, h => exact h
          | 15, h => exact h
          | _ + 16, _ => trivial
        · exact fun w w' h h' => h.trans h'
        · -- 0: t35 := move t9 
          intro ac wx hE hsz hdf h
          have e9 : ac.tmps[9]? = some (.int .i64 lo) := by obtain ⟨v, h1, h2⟩ := h 9 (by decide +kernel); exact h1.trans (h2.symm.trans rfl)
          clear h hsz hdf
          go_wp2
          exact ⟨_, rfl, rfl, Ext.refl _⟩
        · -- 1: t36 := move t9 
          intro ac wx hE hsz hdf h
          have e9 : ac.tmps[9]? = some (.int .i64 lo) := by obtain ⟨v, h1, h2⟩ := h 9 (by decide +kernel); exact h1.trans (h2.symm.trans rfl)
          clear h hsz hdf
          go_wp2
          exact ⟨_, rfl, rfl, Ext.refl _⟩
        · -- 2: t37 := move t8 
          intro ac wx hE hsz hdf h
          have e8 : ac.tmps[8]? = some (.int .i64 n) := by obtain ⟨v, h1, h2⟩ := h 8 (by decide +kernel); exact h1.trans (h2.symm.trans rfl)
          clear h hsz hdf
          go_wp2
          exact ⟨_, rfl, rfl, Ext.refl _⟩
        · -- 3: t38 := binOp BinOp.lss 3 t36 t37 3 
          intro ac wx hE hsz hdf h
          have e36 : ac.tmps[36]? = some (.int .i64 lo) := by obtain ⟨v, h1, h2⟩ := h 36 (by decide +kernel); rw [h1]; exact congrArg some h2
          have e37 : ac.tmps[37]? = some (.int .i64 n) := by obtain ⟨v, h1, h2⟩ := h 37 (by decide +kernel); rw [h1]; exact congrArg some h2
          clear h hsz hdf
          go_wp2
          exact ⟨_, rfl, by simp <;> omega, Ext.refl _⟩
        · -- 4: t39 := move t38 
          intro ac wx hE hsz hdf h
          have e38 : ac.tmps[38]? = some (.bool false) := by obtain ⟨v, h1, h2⟩ := h 38 (by decide +kernel); rw [h1]; exact congrArg some h2
          clear h hsz hdf
          go_wp2
          exact ⟨_, rfl, rfl, Ext.refl _⟩
        · -- 5: t40 := move t2 (4, True)
          intro ac wx hE hsz hdf h
          have e39 : ac.tmps[39]? = some (.bool false) := by obtain ⟨v, h1, h2⟩ := h 39 (by decide +kernel); rw [h1]; exact congrArg some h2
          clear h hsz hdf
          go_wp2
          exact ⟨_, rfl, rfl, Ext.refl _⟩
        · -- 6: t41 := move t0 (4, True)
          intro ac wx hE hsz hdf h
          have e39 : ac.tmps[39]? = some (.bool false) := by obtain ⟨v, h1, h2⟩ := h 39 (by decide +kernel); rw [h1]; exact congrArg some h2
          clear h hsz hdf
          go_wp2
          exact ⟨_, rfl, rfl, Ext.refl _⟩
        · -- 7: t42 := move t9 (4, True)
          intro ac wx hE hsz hdf h
          have e39 : ac.tmps[39]? = some (.bool false) := by obtain ⟨v, h1, h2⟩ := h 39 (by decide +kernel); rw [h1]; exact congrArg some h2
          clear h hsz hdf
          go_wp2
          exact ⟨_, rfl, rfl, Ext.refl _⟩
        · -- 8: t43 := indexAddr 111 t41 t42 (4, True)
          intro ac wx hE hsz hdf h
          have e39 : ac.tmps[39]? = some (.bool false) := by obtain ⟨v, h1, h2⟩ := h 39 (by decide +kernel); rw [h1]; exact congrArg some h2
          clear h hsz hdf
          go_wp2
          exact ⟨_, rfl, rfl, Ext.refl _⟩
        · -- 9: t44 := load 115 t43 (4, True)
          intro ac wx hE hsz hdf h
          have e39 : ac.tmps[39]? = some (.bool false) := by obtain ⟨v, h1, h2⟩ := h 39 (by decide +kernel); rw [h1]; exact congrArg some h2
          clear h hsz hdf
          go_wp2
          exact ⟨_, rfl, rfl, Ext.refl _⟩
        · -- 10: t45 := load 115 t4 (4, True)
          intro ac wx hE hsz hdf h
          have e39 : ac.tmps[39]? = some (.bool false) := by obtain ⟨v, h1, h2⟩ := h 39 (by decide +kernel); rw [h1]; exact congrArg some h2
          clear h hsz hdf
          go_wp2
          exact ⟨_, rfl, rfl, Ext.refl _⟩
        · -- 11: t46 := call { value t40, args := #[t44, t45], argTypes := #[115, 115] } (4, True)
          intro ac wx hE hsz hdf h
          have e39 : ac.tmps[39]? = some (.bool false) := by obtain ⟨v, h1, h2⟩ := h 39 (by decide +kernel); rw [h1]; exact congrArg some h2
          clear h hsz hdf
          go_wp2
          exact ⟨_, rfl, rfl, Ext.refl _⟩
        · -- 12: t47 := binOp BinOp.eql 3 t46 (const (0:i64)) 3 (4, True)
          intro ac wx hE hsz hdf h
          have e39 : ac.tmps[39]? = some (.bool false) := by obtain ⟨v, h1, h2⟩ := h 39 (by decide +kernel); rw [h1]; exact congrArg some h2
          clear h hsz hdf
          go_wp2
          exact ⟨_, rfl, rfl, Ext.refl _⟩
        · -- 13: t48 := pick t39 t47 (const (Value.bool false)) 
          intro ac wx hE hsz hdf h
          have e39 : ac.tmps[39]? = some (.bool false) := by obtain ⟨v, h1, h2⟩ := h 39 (by decide +kernel); rw [h1]; exact congrArg some h2
          have e47 : ac.tmps[47]? = some (undef) := by obtain ⟨v, h1, h2⟩ := h 47 (by decide +kernel); rw [h1]; exact congrArg some h2
          clear h hsz hdf
          go_wp2
          exact ⟨_, rfl, rfl, Ext.refl _⟩
        · -- 14: t6 := assign t35 
          intro ac wx hE hsz hdf h
          have e35 : ac.tmps[35]? = some (.int .i64 lo) := by obtain ⟨v, h1, h2⟩ := h 35 (by decide +kernel); rw [h1]; exact congrArg some h2
          clear h hsz hdf
          go_wp2
          exact ⟨_, rfl, rfl, Ext.refl _⟩
        · -- 15: t7 := assign t48 
          intro ac wx hE hsz hdf h
          have e48 : ac.tmps[48]? = some (.bool false) := by obtain ⟨v, h1, h2⟩ := h 48 (by decide +kernel); rw [h1]; exact congrArg some h2
          clear h hsz hdf
          go_wp2
          exact ⟨_, rfl, rfl, Ext.refl _⟩
        · intro ac w9 hE hsz hdf h hrest
          obtain ⟨v0, s0, g0⟩ := h 0 _ rfl
          have e0 := g0 35 rfl
          obtain rfl : v0 = .int .i64 lo := s0
          obtain ⟨v1, s1, g1⟩ := h 1 _ rfl
          have e1 := g1 36 rfl
          obtain rfl : v1 = .int .i64 lo := s1
          obtain ⟨v2, s2, g2⟩ := h 2 _ rfl
          have e2 := g2 37 rfl
          obtain rfl : v2 = .int .i64 n := s2
          obtain ⟨v3, s3, g3⟩ := h 3 _ rfl
          have e3 := g3 38 rfl
          obtain rfl : v3 = .bool false := s3
          obtain ⟨v4, s4, g4⟩ := h 4 _ rfl
          have e4 := g4 39 rfl
          obtain rfl : v4 = .bool false := s4
          obtain ⟨v5, s5, g5⟩ := h 5 _ rfl
          have e5 := g5 40 rfl
          obtain rfl : v5 = undef := s5
          obtain ⟨v6, s6, g6⟩ := h 6 _ rfl
          have e6 := g6 41 rfl
          obtain rfl : v6 = undef := s6
          obtain ⟨v7, s7, g7⟩ := h 7 _ rfl
          have e7 := g7 42 rfl
          obtain rfl : v7 = undef := s7
          obtain ⟨v8, s8, g8⟩ := h 8 _ rfl
          have e8 := g8 43 rfl
          obtain rfl : v8 = undef := s8
          obtain ⟨v9, s9, g9⟩ := h 9 _ rfl
          have e9 := g9 44 rfl
          obtain rfl : v9 = undef := s9
          obtain ⟨v10, s10, g10⟩ := h 10 _ rfl
          have e10 := g10 45 rfl
          obtain rfl : v10 = undef := s10
          obtain ⟨v11, s11, g11⟩ := h 11 _ rfl
          have e11 := g11 46 rfl
          obtain rfl : v11 = undef := s11
          obtain ⟨v12, s12, g12⟩ := h 12 _ rfl
          have e12 := g12 47 rfl
          obtain rfl : v12 = undef := s12
          obtain ⟨v13, s13, g13⟩ := h 13 _ rfl
          have e13 := g13 48 rfl
          obtain rfl : v13 = .bool false := s13
          obtain ⟨v14, s14, g14⟩ := h 14 _ rfl
          have e14 := g14 6 rfl
          obtain rfl : v14 = .int .i64 lo := s14
          obtain ⟨v15, s15, g15⟩ := h 15 _ rfl
          have e15 := g15 7 rfl
          obtain rfl : v15 = .bool false := s15
          have ha := act_of [(35, .int .i64 lo), (36, .int .i64 lo), (37, .int .i64 n), (38, .bool false), (39, .bool false), (40, undef), (41, undef), (42, undef), (43, undef), (44, undef), (45, undef), (46, undef), (47, undef), (48, .bool false), (6, .int .i64 lo), (7, .bool false)] rfl hsz hdf (by intro p hp; simp only [List.mem_cons, List.not_mem_nil, or_false] at hp; rcases hp with rfl | rfl | rfl | rfl | rfl | rfl | rfl | rfl | rfl | rfl | rfl | rfl | rfl | rfl | rfl | rfl <;> first | exact e0 | exact e1 | exact e2 | exact e3 | exact e4 | exact e5 | exact e6 | exact e7 | exact e8 | exact e9 | exact e10 | exact e11 | exact e12 | exact e13 | exact e14 | exact e15) hrest
          clear h hrest hsz hdf e0 e1 e2 e3 e4 e5 e6 e7 e8 e9 e10 e11 e12 e13 e14 e15 g0 g1 g2 g3 g4 g5 g6 g7 g8 g9 g10 g11 g12 g13 g14 g15
          subst ha
          simp only [List.foldl_cons, List.foldl_nil, Act.put, List.setIfInBounds_toArray, List.set_cons_succ, List.set_cons_zero]
        -- GAD TmBs8f
          have hxx := (hx1.trans hx).trans hE
          clear hE
          go_wp2
          go_ret2
          exact ⟨lo, _, rfl, HPP.out, hxx⟩

end Go.Proofs.YtnbdmlpnoiljdaaDoor
