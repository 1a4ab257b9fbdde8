/- The document's signs. -/
import Derived.Test.YthjnbpfbhmfopaaDoorCl11
namespace Go.Proofs.YthjnbpfbhmfopaaDoor
open Go Go.RowKit

def digL : List UInt8 := [48, 49, 50, 51, 52, 53, 54, 55, 56, 57, 97, 98, 99, 100, 101, 102, 65, 66, 67, 68, 69, 70]
theorem refDigits (w : World) : Calls Tryd.prog 61 #[] w fun e w' => e = .returned (.string ⟨digL.toArray⟩) ∧ w' = w := by
  go_enter Tryd.func61, Tryd.ntmps61
  go_wp2
  go_ret
  exact ⟨by simp [digL], rfl⟩
theorem digL_at (d : Nat) (hd : d < 16) : digL[d]? = some (hexC d) := by
  have h : ∀ d : Fin 16, digL[d.1]? = some (hexC d.1) := by decide
  exact h ⟨d, hd⟩

theorem Ext.alloc' {w w' : World} (h : Ext w w') (o : Obj) : Ext w (w'.alloc o) := h.trans (Ext.new1 _ o)

set_option maxHeartbeats 1000000 in
set_option maxRecDepth 20000 in
theorem refSign (c : Nat) (hc : c < 256) (w : World) :
    Calls Tryd.prog 47 #[.int .i64 (c : Nat)] w fun e w' => e = .returned (.string ⟨(signT c).toArray⟩) ∧ Ext w w' := by
  have hc6 : (c : Int) < 256 := by omega
  by_cases hs : (isLet c || isFig c) = true
  · have hr : signT c = [UInt8.ofNat c] := by unfold signT; rw [if_pos hs]
    have e1 : U8 (UInt8.ofNat c) = .int .u8 (c : Nat) := by unfold U8; rw [ofNat_byte c hc]
    have hcv := fun w' => conv_str (P := Tryd.prog) (c := 1) (l := [UInt8.ofNat c]) Tryd.underlying99 Tryd.underlying5 Tryd.underlying9 (rd_one w' (U8 (UInt8.ofNat c)) 5)
    rw [e1] at hcv
    rw [hr]
    have hu8 : IntKind.u8.wrap (c : Int) = (c : Int) := by rw [IntKind.wrap_u8]; omega
    clear hr e1
    go_enter Tryd.func47, Tryd.ntmps47
    go_wp2_with (first
    | (refine store_set rfl (.tmp 3) (.tmp 8) rfl (g := w5.heap.size) (q := fun j => isLet j || isFig j) rfl rfl (BB.zero rfl) ?_; have hc0 := ((BB.zero (w := w5) rfl).row (fun j => isLet j || isFig j)).cell hc; have hxx : Ext w ((w5.alloc (.cells Tryd.zeroCells37 37)).setRow w5.heap.size (bcs fun j => isLet j || isFig j)) := Ext.row (((((hx1.trans hx2).trans hx3).trans hx4).trans hx5).alloc' _) _ _ ((((hx1.trans hx2).trans hx3).trans hx4).trans hx5).size; simp only [hs] at hc0; generalize (w5.alloc (.cells Tryd.zeroCells37 37)).setRow w5.heap.size (bcs fun j => isLet j || isFig j) = w6 at *)
    | (have := hx4; go_at_call 56; refine (refOr _ _ _).mono ?_; rintro e w5 ⟨rfl, hx5⟩)
    | (have := hx3; go_at_call 38; refine (refFrom 48 57 (by omega) (by omega) _).mono ?_; rintro e w4 ⟨rfl, hx4⟩)
    | (have := hx2; go_at_call 56; refine (refOr _ _ _).mono ?_; rintro e w3 ⟨rfl, hx3⟩)
    | (have := hx1; go_at_call 38; refine (refFrom 65 90 (by omega) (by omega) _).mono ?_; rintro e w2 ⟨rfl, hx2⟩)
    | (go_at_call 38; refine (refFrom 97 122 (by omega) (by omega) _).mono ?_; rintro e w1 ⟨rfl, hx1⟩))
    go_ret
    exact ⟨by simp, hxx.alloc' _⟩
  · have hr : signT c = [92, 120, hexC (c / 16), hexC (c % 16)] := by unfold signT; rw [if_neg hs]
    have hs : (isLet c || isFig c) = false := by simpa using hs
    have hx0 : ∀ w, (Instr.index 9 (.string ⟨digL.toArray⟩) (.int .i64 ((c / 16 : Nat) : Int))).run Tryd.prog w = .ok (.int .u8 (hexC (c / 16)).toNat) w := fun w => ix_str (t := 9) Tryd.underlying9 digL .i64 (c / 16) _ (digL_at _ (by omega)) w
    have hy0 : ∀ w, (Instr.index 9 (.string ⟨digL.toArray⟩) (.int .i64 ((c % 16 : Nat) : Int))).run Tryd.prog w = .ok (.int .u8 (hexC (c % 16)).toNat) w := fun w => ix_str (t := 9) Tryd.underlying9 digL .i64 (c % 16) _ (digL_at _ (by omega)) w
    have hw1 : wrap64 ((c / 16 : Nat) : Int) = ((c / 16 : Nat) : Int) := by unfold wrap64; omega
    have hd1 : (c : Int).tdiv 16 = ((c / 16 : Nat) : Int) := rfl
    have hd2 : (c : Int).tmod 16 = ((c % 16 : Nat) : Int) := rfl
    rw [hr]
    clear hr
    generalize hexC (c / 16) = x at *
    generalize hexC (c % 16) = y at *
    generalize c / 16 = cq at *
    generalize c % 16 = cr at *
    go_enter Tryd.func47, Tryd.ntmps47
    go_wp2_with (first
    | (refine store_set rfl (.tmp 3) (.tmp 8) rfl (g := w5.heap.size) (q := fun j => isLet j || isFig j) rfl rfl (BB.zero rfl) ?_; have hc0 := ((BB.zero (w := w5) rfl).row (fun j => isLet j || isFig j)).cell hc; have hxx : Ext w ((w5.alloc (.cells Tryd.zeroCells37 37)).setRow w5.heap.size (bcs fun j => isLet j || isFig j)) := Ext.row (((((hx1.trans hx2).trans hx3).trans hx4).trans hx5).alloc' _) _ _ ((((hx1.trans hx2).trans hx3).trans hx4).trans hx5).size; simp only [hs] at hc0; generalize (w5.alloc (.cells Tryd.zeroCells37 37)).setRow w5.heap.size (bcs fun j => isLet j || isFig j) = w6 at *)
    | (have := hx4; go_at_call 56; refine (refOr _ _ _).mono ?_; rintro e w5 ⟨rfl, hx5⟩)
    | (have := hx3; go_at_call 38; refine (refFrom 48 57 (by omega) (by omega) _).mono ?_; rintro e w4 ⟨rfl, hx4⟩)
    | (have := hx2; go_at_call 56; refine (refOr _ _ _).mono ?_; rintro e w3 ⟨rfl, hx3⟩)
    | (have := hx1; go_at_call 38; refine (refFrom 65 90 (by omega) (by omega) _).mono ?_; rintro e w2 ⟨rfl, hx2⟩)
    | (go_at_call 38; refine (refFrom 97 122 (by omega) (by omega) _).mono ?_; rintro e w1 ⟨rfl, hx1⟩))
    clear hc0 hx1 hx2 hx3 hx4 hx5
    generalize w5.heap.size = gz
    -- DAG ClSign4
    refine wp_region_dag (E := Ext) (w0 := w6) (Φ := fun i v w => match i with | 0 => (v = .string ⟨digL.toArray⟩) | 1 => (v = .int .i64 c) | 2 => (v = .int .i64 cq) | 3 => (v = U8 x) | 4 => (v = .string ⟨digL.toArray⟩) | 5 => (v = .int .i64 c) | 6 => (v = .int .i64 cr) | 7 => (v = U8 y) | 8 => (∃ A, v = .slice A 4 4 ∧ Rd w 1 A 4 (bytesV [92, 120, x, y])) | 9 => (v = .string ⟨#[92, 120, x, y]⟩) | 10 => (v = .string ⟨#[92, 120, x, y]⟩) | _ => True) (show Tryd.prog.follows .mixedOrders = true from Checked.mixed Tryd.checked) 26 rfl (by decide +kernel) ?_ ((Below.refl _ _).drew) ?_ ⟨?_, ?_, ?_, ?_, ?_, ?_, ?_, ?_, ?_, ?_, ?_, trivial⟩ ?_
    · intro i v w w' h hE
      match i, h with
      | 0, h => exact h
      | 1, h => exact h
      | 2, h => exact h
      | 3, h => exact h
      | 4, h => exact h
      | 5, h => exact h
      | 6, h => exact h
      | 7, h => exact h
      | 8, h => exact (by obtain ⟨A, h1, h2⟩ := h; exact ⟨A, h1, h2.keep hE⟩)
      | 9, h => exact h
      | 10, h => exact h
      | _ + 11, _ => trivial
    · exact fun w w' h h' => h.trans h'
    · -- 0: t16 := call { value (Operand.func 45), args := #[], argTypes := #[] } 
      intro ac wx hE hsz hdf h
      clear h hsz hdf
      go_wp2_with ((go_at_call 61; refine (refDigits _).mono ?_; rintro e w9 ⟨rfl, rfl⟩))
      exact ⟨_, rfl, rfl, Ext.refl _⟩
    · -- 1: t17 := move t0 
      intro ac wx hE hsz hdf h
      have e0 : ac.tmps[0]? = some (.int .i64 c) := by obtain ⟨v, h1, h2⟩ := h 0 (by decide +kernel); exact h1.trans (h2.symm.trans rfl)
      clear h hsz hdf
      go_wp2
      exact ⟨_, rfl, rfl, Ext.refl _⟩
    · -- 2: t18 := binOp BinOp.quo 3 t17 (const (16:i64)) 3 
      intro ac wx hE hsz hdf h
      have e17 : ac.tmps[17]? = some (.int .i64 c) := by obtain ⟨v, h1, h2⟩ := h 17 (by decide +kernel); rw [h1]; exact congrArg some h2
      clear h hsz hdf
      go_wp2
      exact ⟨_, rfl, congrArg (Value.int .i64) hw1, Ext.refl _⟩
    · -- 3: t19 := index 9 t16 t18 
      intro ac wx hE hsz hdf h
      have e16 : ac.tmps[16]? = some (.string ⟨digL.toArray⟩) := by obtain ⟨v, h1, h2⟩ := h 16 (by decide +kernel); rw [h1]; exact congrArg some h2
      have e18 : ac.tmps[18]? = some (.int .i64 cq) := by obtain ⟨v, h1, h2⟩ := h 18 (by decide +kernel); rw [h1]; exact congrArg some h2
      clear h hsz hdf
      go_wp2
      exact ⟨_, rfl, rfl, Ext.refl _⟩
    · -- 4: t20 := call { value (Operand.func 45), args := #[], argTypes := #[] } 
      intro ac wx hE hsz hdf h
      clear h hsz hdf
      go_wp2_with ((go_at_call 61; refine (refDigits _).mono ?_; rintro e w9 ⟨rfl, rfl⟩))
      exact ⟨_, rfl, rfl, Ext.refl _⟩
    · -- 5: t21 := move t0 
      intro ac wx hE hsz hdf h
      have e0 : ac.tmps[0]? = some (.int .i64 c) := by obtain ⟨v, h1, h2⟩ := h 0 (by decide +kernel); exact h1.trans (h2.symm.trans rfl)
      clear h hsz hdf
      go_wp2
      exact ⟨_, rfl, rfl, Ext.refl _⟩
    · -- 6: t22 := binOp BinOp.rem 3 t21 (const (16:i64)) 3 
      intro ac wx hE hsz hdf h
      have e21 : ac.tmps[21]? = some (.int .i64 c) := by obtain ⟨v, h1, h2⟩ := h 21 (by decide +kernel); rw [h1]; exact congrArg some h2
      clear h hsz hdf
      go_wp2
      exact ⟨_, rfl, rfl, Ext.refl _⟩
    · -- 7: t23 := index 9 t20 t22 
      intro ac wx hE hsz hdf h
      have e20 : ac.tmps[20]? = some (.string ⟨digL.toArray⟩) := by obtain ⟨v, h1, h2⟩ := h 20 (by decide +kernel); rw [h1]; exact congrArg some h2
      have e22 : ac.tmps[22]? = some (.int .i64 cr) := by obtain ⟨v, h1, h2⟩ := h 22 (by decide +kernel); rw [h1]; exact congrArg some h2
      clear h hsz hdf
      go_wp2
      exact ⟨_, rfl, rfl, Ext.refl _⟩
    · -- 8: t24 := buildSlice 73 4 #[(0, const (92:u8)), (1, const (120:u8)), (2, t19), (3, t23)] 
      intro ac wx hE hsz hdf h
      have e19 : ac.tmps[19]? = some (U8 x) := by obtain ⟨v, h1, h2⟩ := h 19 (by decide +kernel); rw [h1]; exact congrArg some h2
      have e23 : ac.tmps[23]? = some (U8 y) := by obtain ⟨v, h1, h2⟩ := h 23 (by decide +kernel); rw [h1]; exact congrArg some h2
      clear h hsz hdf
      unfold U8 at e19 e23
      go_wp2
      exact ⟨_, rfl, ⟨_, rfl, rd_newS _ 1 4 [U8 92, U8 120, U8 x, U8 y] 5 rfl⟩, Ext.new1 _ _⟩
    · -- 9: t25 := convert 73 9 t24 
      intro ac wx hE hsz hdf h
      obtain ⟨v24, e24, s24⟩ : ∃ v, ac.tmps[24]? = some v ∧ (∃ A, v = .slice A 4 4 ∧ Rd wx 1 A 4 (bytesV [92, 120, x, y])) := h 24 (by decide +kernel)
      clear h hsz hdf
      obtain ⟨A8, rfl, hrd8⟩ := s24; have hcv := conv_str (P := Tryd.prog) (c := 4) (l := [92, 120, x, y]) Tryd.underlying99 Tryd.underlying5 Tryd.underlying9 hrd8
      go_wp2
      exact ⟨_, rfl, rfl, Ext.refl _⟩
    · -- 10: t2 := assign t25 
      intro ac wx hE hsz hdf h
      have e25 : ac.tmps[25]? = some (.string ⟨#[92, 120, x, y]⟩) := by obtain ⟨v, h1, h2⟩ := h 25 (by decide +kernel); rw [h1]; exact congrArg some h2
      clear h hsz hdf
      go_wp2
      exact ⟨_, rfl, rfl, Ext.refl _⟩
    · intro ac w9 hE hsz hdf h hrest
      obtain ⟨v0, s0, g0⟩ := h 0 _ rfl
      have e0 := g0 16 rfl
      obtain rfl : v0 = .string ⟨digL.toArray⟩ := s0
      obtain ⟨v1, s1, g1⟩ := h 1 _ rfl
      have e1 := g1 17 rfl
      obtain rfl : v1 = .int .i64 c := s1
      obtain ⟨v2, s2, g2⟩ := h 2 _ rfl
      have e2 := g2 18 rfl
      obtain rfl : v2 = .int .i64 cq := s2
      obtain ⟨v3, s3, g3⟩ := h 3 _ rfl
      have e3 := g3 19 rfl
      obtain rfl : v3 = U8 x := s3
      obtain ⟨v4, s4, g4⟩ := h 4 _ rfl
      have e4 := g4 20 rfl
      obtain rfl : v4 = .string ⟨digL.toArray⟩ := s4
      obtain ⟨v5, s5, g5⟩ := h 5 _ rfl
      have e5 := g5 21 rfl
      obtain rfl : v5 = .int .i64 c := s5
      obtain ⟨v6, s6, g6⟩ := h 6 _ rfl
      have e6 := g6 22 rfl
      obtain rfl : v6 = .int .i64 cr := s6
      obtain ⟨v7, s7, g7⟩ := h 7 _ rfl
      have e7 := g7 23 rfl
      obtain rfl : v7 = U8 y := s7
      obtain ⟨v8, s8, g8⟩ := h 8 _ rfl
      have e8 := g8 24 rfl
      replace s8 : ∃ A, v8 = .slice A 4 4 ∧ Rd w9 1 A 4 (bytesV [92, 120, x, y]) := s8
      obtain ⟨v9, s9, g9⟩ := h 9 _ rfl
      have e9 := g9 25 rfl
      obtain rfl : v9 = .string ⟨#[92, 120, x, y]⟩ := s9
      obtain ⟨v10, s10, g10⟩ := h 10 _ rfl
      have e10 := g10 2 rfl
      obtain rfl : v10 = .string ⟨#[92, 120, x, y]⟩ := s10
      have ha := act_of [(16, .string ⟨digL.toArray⟩), (17, .int .i64 c), (18, .int .i64 cq), (19, U8 x), (20, .string ⟨digL.toArray⟩), (21, .int .i64 c), (22, .int .i64 cr), (23, U8 y), (24, v8), (25, .string ⟨#[92, 120, x, y]⟩), (2, .string ⟨#[92, 120, x, y]⟩)] rfl hsz hdf (by intro p hp; simp only [List.mem_cons, List.not_mem_nil, or_false] at hp; rcases hp with rfl | rfl | rfl | rfl | rfl | rfl | rfl | rfl | rfl | rfl | rfl <;> first | exact e0 | exact e1 | exact e2 | exact e3 | exact e4 | exact e5 | exact e6 | exact e7 | exact e8 | exact e9 | exact e10) hrest
      clear h hrest hsz hdf e0 e1 e2 e3 e4 e5 e6 e7 e8 e9 e10 g0 g1 g2 g3 g4 g5 g6 g7 g8 g9 g10
      subst ha
      simp only [List.foldl_cons, List.foldl_nil, Act.put, List.setIfInBounds_toArray, List.set_cons_succ, List.set_cons_zero]
    -- GAD ClSign4
      go_wp2
      go_ret
      exact ⟨by simp, hxx.trans hE⟩
end Go.Proofs.YthjnbpfbhmfopaaDoor
