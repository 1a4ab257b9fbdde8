/- The chapter's example, walked. -/
import Derived.Test.YtkknhocehladdaaDoorCl23z
import Derived.Test.YtkknhocehladdaaDoorCl24p
namespace Go.Proofs.YtkknhocehladdaaDoor
open Go Go.RowKit
attribute [local irreducible] wd

theorem alive_val (E : Nat → Addr) : parseV E (parseS aliveL) = .tuple #[sp aliveP, .int .i64 7, .nilIface] := by
  unfold parseV
  rw [sp_congr (fun c _ => alive_parse.2 c), alive_parse.1]
  rfl
theorem text_one : textT (fun j => j == 97) = [97] := by
  have h := sole_one (m := 97) (by omega)
  have h1 := cnt_Sole h
  unfold textT
  rw [if_neg (by omega), if_pos h1, h.lst]
  decide
def aliveQ (j : Nat) : Bool := (decide (97 ≤ j) && decide (j ≤ 99)) || (decide (48 ≤ j) && decide (j ≤ 57))

set_option maxHeartbeats 4000000 in
set_option maxRecDepth 20000 in
theorem alive22 (E : Nat → Addr) (w : World) (hE : ErrC [2, 4] w E) (hT : Tab w) :
    Calls Tryd.prog 6 #[] w fun e w' => e = .returned (.bool true) ∧ Ext w w' := by
  go_enter Tryd.func6, Tryd.ntmps6
  go_wp2_with (go_at_call 23; refine (clParse E aliveL (by decide) w hE hT).mono ?_; rintro e w1 ⟨rfl, hx1⟩; rw [alive_val E]; unfold sp)
  have hB := SB.new (w := w1) rfl aliveP
  have hT2 := hT.keep (hx1.trans (Ext.new1 w1 (.cells #[.int .u64 (wd aliveP 0 : Nat), .int .u64 (wd aliveP 1 : Nat), .int .u64 (wd aliveP 2 : Nat), .int .u64 (wd aliveP 3 : Nat)] 24)))
  have hxw := hx1.trans (Ext.new1 w1 (.cells #[.int .u64 (wd aliveP 0 : Nat), .int .u64 (wd aliveP 1 : Nat), .int .u64 (wd aliveP 2 : Nat), .int .u64 (wd aliveP 3 : Nat)] 24))
  have heq : ∀ w, (Op.equalIn 10000 24 (.agg #[.int .u64 (wd aliveP 0 : Nat), .int .u64 (wd aliveP 1 : Nat), .int .u64 (wd aliveP 2 : Nat), .int .u64 (wd aliveP 3 : Nat)]) (.agg #[.int .u64 (wd aliveQ 0 : Nat), .int .u64 (wd aliveQ 1 : Nat), .int .u64 (wd aliveQ 2 : Nat), .int .u64 (wd aliveQ 3 : Nat)])).run Tryd.prog w = .ok true w := fun w => by
    rw [eq_sp aliveP aliveQ w, (sameP_iff aliveP aliveQ).2 (fun _ _ => rfl)]
  clear hE hT hx1
  generalize w1.heap.size = gx at *
  generalize w1.alloc (.cells #[.int .u64 (wd aliveP 0 : Nat), .int .u64 (wd aliveP 1 : Nat), .int .u64 (wd aliveP 2 : Nat), .int .u64 (wd aliveP 3 : Nat)] 24) = wq at *
  -- DAG ClAlive2
  refine wp_region_dag (E := Ext) (w0 := wq) (Φ := fun i v w => match i with | 0 => (v = .nilIface) | 1 => (v = .bool true) | 2 => (v = .bool true) | 3 => (v = .int .i64 7) | 4 => (v = .bool true) | 5 => (v = .bool true) | 6 => (v = .bool true) | 7 => (v = sp aliveP) | 8 => (v = sp (fun j => decide (97 ≤ j) && decide (j ≤ 99))) | 9 => (v = sp (fun j => decide (48 ≤ j) && decide (j ≤ 57))) | 10 => (v = sp aliveQ) | 11 => (v = .bool true) | 12 => (v = .bool true) | 13 => (v = .bool true) | 14 => (v = sp (fun j => j == 97)) | 15 => (v = .string ⟨#[97]⟩) | 16 => (v = .bool true) | 17 => (v = .bool true) | 18 => (v = .bool true) | _ => True) (show Tryd.prog.follows .mixedOrders = true from Checked.mixed Tryd.checked) 27 rfl (by decide +kernel) ?_ ((Below.refl _ _).drew) ?_ ⟨?_, ?_, ?_, ?_, ?_, ?_, ?_, ?_, ?_, ?_, ?_, ?_, ?_, ?_, ?_, ?_, ?_, ?_, ?_, trivial⟩ ?_
  · intro i v w w' h hE
    match i, h with
    | 0, h => exact h
    | 1, h => exact h
    | 2, h => exact h
    | 3, h => exact h
    | 4, h => exact h
    | 5, h => exact h
    | 6, h => exact h
    | 7, h => exact h
    | 8, h => exact h
    | 9, h => exact h
    | 10, h => exact h
    | 11, h => exact h
    | 12, h => exact h
    | 13, h => exact h
    | 14, h => exact h
    | 15, h => exact h
    | 16, h => exact h
    | 17, h => exact h
    | 18, h => exact h
    | _ + 19, _ => trivial
  · exact fun w w' h h' => h.trans h'
  · -- 0: t9 := move t3 
    intro ac wx hE hsz hdf h
    have e3 : ac.tmps[3]? = some (.nilIface) := by obtain ⟨v, h1, h2⟩ := h 3 (by decide +kernel); exact h1.trans (h2.symm.trans rfl)
    clear h hsz hdf
    go_wp2
    exact ⟨_, rfl, rfl, Ext.refl _⟩
  · -- 1: t10 := binOp BinOp.eql 45 t9 (const Value.nilIface) 45 
    intro ac wx hE hsz hdf h
    have e9 : ac.tmps[9]? = some (.nilIface) := by obtain ⟨v, h1, h2⟩ := h 9 (by decide +kernel); rw [h1]; exact congrArg some h2
    clear h hsz hdf
    go_wp2
    exact ⟨_, rfl, rfl, Ext.refl _⟩
  · -- 2: t11 := move t10 
    intro ac wx hE hsz hdf h
    have e10 : ac.tmps[10]? = some (.bool true) := by obtain ⟨v, h1, h2⟩ := h 10 (by decide +kernel); rw [h1]; exact congrArg some h2
    clear h hsz hdf
    go_wp2
    exact ⟨_, rfl, rfl, Ext.refl _⟩
  · -- 3: t12 := move t2 (2, True)
    intro ac wx hE hsz hdf h
    have e2 : ac.tmps[2]? = some (.int .i64 7) := by obtain ⟨v, h1, h2⟩ := h 2 (by decide +kernel); exact h1.trans (h2.symm.trans rfl)
    have e11 : ac.tmps[11]? = some (.bool true) := by obtain ⟨v, h1, h2⟩ := h 11 (by decide +kernel); rw [h1]; exact congrArg some h2
    clear h hsz hdf
    go_wp2
    exact ⟨_, rfl, rfl, Ext.refl _⟩
  · -- 4: t13 := binOp BinOp.eql 3 t12 (const (7:i64)) 3 (2, True)
    intro ac wx hE hsz hdf h
    have e12 : ac.tmps[12]? = some (.int .i64 7) := by obtain ⟨v, h1, h2⟩ := h 12 (by decide +kernel); rw [h1]; exact congrArg some h2
    have e11 : ac.tmps[11]? = some (.bool true) := by obtain ⟨v, h1, h2⟩ := h 11 (by decide +kernel); rw [h1]; exact congrArg some h2
    clear h hsz hdf
    go_wp2
    exact ⟨_, rfl, rfl, Ext.refl _⟩
  · -- 5: t14 := pick t11 t13 (const (Value.bool false)) 
    intro ac wx hE hsz hdf h
    have e11 : ac.tmps[11]? = some (.bool true) := by obtain ⟨v, h1, h2⟩ := h 11 (by decide +kernel); rw [h1]; exact congrArg some h2
    have e13 : ac.tmps[13]? = some (.bool true) := by obtain ⟨v, h1, h2⟩ := h 13 (by decide +kernel); rw [h1]; exact congrArg some h2
    clear h hsz hdf
    go_wp2
    exact ⟨_, rfl, rfl, Ext.refl _⟩
  · -- 6: t15 := move t14 
    intro ac wx hE hsz hdf h
    have e14 : ac.tmps[14]? = some (.bool true) := by obtain ⟨v, h1, h2⟩ := h 14 (by decide +kernel); rw [h1]; exact congrArg some h2
    clear h hsz hdf
    go_wp2
    exact ⟨_, rfl, rfl, Ext.refl _⟩
  · -- 7: t16 := load 24 t1 (6, True)
    intro ac wx hE hsz hdf h
    have e1 : ac.tmps[1]? = some (.pointer (some ⟨gx, 0, none⟩)) := by obtain ⟨v, h1, h2⟩ := h 1 (by decide +kernel); exact h1.trans (h2.symm.trans rfl)
    have e15 : ac.tmps[15]? = some (.bool true) := by obtain ⟨v, h1, h2⟩ := h 15 (by decide +kernel); rw [h1]; exact congrArg some h2
    clear h hsz hdf
    obtain ⟨y0, y1, y2, y3⟩ := (hB.keep hE).cells
    go_wp2
    exact ⟨_, rfl, rfl, Ext.refl _⟩
  · -- 8: t17 := call { value (Operand.func 20), args := #[const (97:u8), const (99:u8)], argTypes := #[5, 5] } (6, True)
    intro ac wx hE hsz hdf h
    have e15 : ac.tmps[15]? = some (.bool true) := by obtain ⟨v, h1, h2⟩ := h 15 (by decide +kernel); rw [h1]; exact congrArg some h2
    clear h hsz hdf
    go_wp2_with ((go_at_call 20; refine (setRange 97 99 (by omega) (by omega) _).mono ?_; rintro e w9 ⟨rfl, hb9⟩))
    exact ⟨_, rfl, rfl, hb9⟩
  · -- 9: t18 := call { value (Operand.func 20), args := #[const (48:u8), const (57:u8)], argTypes := #[5, 5] } (6, True)
    intro ac wx hE hsz hdf h
    have e15 : ac.tmps[15]? = some (.bool true) := by obtain ⟨v, h1, h2⟩ := h 15 (by decide +kernel); rw [h1]; exact congrArg some h2
    clear h hsz hdf
    go_wp2_with ((go_at_call 20; refine (setRange 48 57 (by omega) (by omega) _).mono ?_; rintro e w9 ⟨rfl, hb9⟩))
    exact ⟨_, rfl, rfl, hb9⟩
  · -- 10: t19 := call { value (Operand.func 11), args := #[t17, t18], argTypes := #[24, 24] } (6, True)
    intro ac wx hE hsz hdf h
    have e17 : ac.tmps[17]? = some (sp (fun j => decide (97 ≤ j) && decide (j ≤ 99))) := by obtain ⟨v, h1, h2⟩ := h 17 (by decide +kernel); rw [h1]; exact congrArg some h2
    have e18 : ac.tmps[18]? = some (sp (fun j => decide (48 ≤ j) && decide (j ≤ 57))) := by obtain ⟨v, h1, h2⟩ := h 18 (by decide +kernel); rw [h1]; exact congrArg some h2
    have e15 : ac.tmps[15]? = some (.bool true) := by obtain ⟨v, h1, h2⟩ := h 15 (by decide +kernel); rw [h1]; exact congrArg some h2
    clear h hsz hdf
    go_wp2_with ((go_at_call 11; refine (setOr _ _ _).mono ?_; rintro e w9 ⟨rfl, hb9⟩))
    exact ⟨_, rfl, rfl, hb9⟩
  · -- 11: t20 := binOp BinOp.eql 24 t16 t19 24 (6, True)
    intro ac wx hE hsz hdf h
    have e16 : ac.tmps[16]? = some (sp aliveP) := by obtain ⟨v, h1, h2⟩ := h 16 (by decide +kernel); rw [h1]; exact congrArg some h2
    have e19 : ac.tmps[19]? = some (sp aliveQ) := by obtain ⟨v, h1, h2⟩ := h 19 (by decide +kernel); rw [h1]; exact congrArg some h2
    have e15 : ac.tmps[15]? = some (.bool true) := by obtain ⟨v, h1, h2⟩ := h 15 (by decide +kernel); rw [h1]; exact congrArg some h2
    clear h hsz hdf
    unfold sp at e16 e19
    go_wp2
    exact ⟨_, rfl, rfl, Ext.refl _⟩
  · -- 12: t21 := pick t15 t20 (const (Value.bool false)) 
    intro ac wx hE hsz hdf h
    have e15 : ac.tmps[15]? = some (.bool true) := by obtain ⟨v, h1, h2⟩ := h 15 (by decide +kernel); rw [h1]; exact congrArg some h2
    have e20 : ac.tmps[20]? = some (.bool true) := by obtain ⟨v, h1, h2⟩ := h 20 (by decide +kernel); rw [h1]; exact congrArg some h2
    clear h hsz hdf
    go_wp2
    exact ⟨_, rfl, rfl, Ext.refl _⟩
  · -- 13: t22 := move t21 
    intro ac wx hE hsz hdf h
    have e21 : ac.tmps[21]? = some (.bool true) := by obtain ⟨v, h1, h2⟩ := h 21 (by decide +kernel); rw [h1]; exact congrArg some h2
    clear h hsz hdf
    go_wp2
    exact ⟨_, rfl, rfl, Ext.refl _⟩
  · -- 14: t23 := call { value (Operand.func 19), args := #[const (97:u8)], argTypes := #[5] } (13, True)
    intro ac wx hE hsz hdf h
    have e22 : ac.tmps[22]? = some (.bool true) := by obtain ⟨v, h1, h2⟩ := h 22 (by decide +kernel); rw [h1]; exact congrArg some h2
    clear h hsz hdf
    go_wp2_with ((go_at_call 19; refine (setOne 97 (by omega) _).mono ?_; rintro e w9 ⟨rfl, hb9⟩))
    exact ⟨_, rfl, rfl, hb9⟩
  · -- 15: t24 := call { value (Operand.func 17), args := #[t23], argTypes := #[24] } (13, True)
    intro ac wx hE hsz hdf h
    have e23 : ac.tmps[23]? = some (sp (fun j => j == 97)) := by obtain ⟨v, h1, h2⟩ := h 23 (by decide +kernel); rw [h1]; exact congrArg some h2
    have e22 : ac.tmps[22]? = some (.bool true) := by obtain ⟨v, h1, h2⟩ := h 22 (by decide +kernel); rw [h1]; exact congrArg some h2
    clear h hsz hdf
    go_wp2_with ((go_at_call 17; refine (clText _ _ (hT2.keep hE)).mono ?_; rintro e w9 ⟨rfl, hb9⟩; rw [text_one]))
    exact ⟨_, rfl, rfl, hb9⟩
  · -- 16: t25 := binOp BinOp.eql 9 t24 (const (Value.string { data := #[97] })) 9 (13, True)
    intro ac wx hE hsz hdf h
    have e24 : ac.tmps[24]? = some (.string ⟨#[97]⟩) := by obtain ⟨v, h1, h2⟩ := h 24 (by decide +kernel); rw [h1]; exact congrArg some h2
    have e22 : ac.tmps[22]? = some (.bool true) := by obtain ⟨v, h1, h2⟩ := h 22 (by decide +kernel); rw [h1]; exact congrArg some h2
    clear h hsz hdf
    go_wp2
    exact ⟨_, rfl, rfl, Ext.refl _⟩
  · -- 17: t26 := pick t22 t25 (const (Value.bool false)) 
    intro ac wx hE hsz hdf h
    have e22 : ac.tmps[22]? = some (.bool true) := by obtain ⟨v, h1, h2⟩ := h 22 (by decide +kernel); rw [h1]; exact congrArg some h2
    have e25 : ac.tmps[25]? = some (.bool true) := by obtain ⟨v, h1, h2⟩ := h 25 (by decide +kernel); rw [h1]; exact congrArg some h2
    clear h hsz hdf
    go_wp2
    exact ⟨_, rfl, rfl, Ext.refl _⟩
  · -- 18: t0 := assign t26 
    intro ac wx hE hsz hdf h
    have e26 : ac.tmps[26]? = some (.bool true) := by obtain ⟨v, h1, h2⟩ := h 26 (by decide +kernel); rw [h1]; exact congrArg some h2
    clear h hsz hdf
    go_wp2
    exact ⟨_, rfl, rfl, Ext.refl _⟩
  · intro ac w9 hE hsz hdf h hrest
    obtain ⟨v0, s0, g0⟩ := h 0 _ rfl
    have e0 := g0 9 rfl
    obtain rfl : v0 = .nilIface := s0
    obtain ⟨v1, s1, g1⟩ := h 1 _ rfl
    have e1 := g1 10 rfl
    obtain rfl : v1 = .bool true := s1
    obtain ⟨v2, s2, g2⟩ := h 2 _ rfl
    have e2 := g2 11 rfl
    obtain rfl : v2 = .bool true := s2
    obtain ⟨v3, s3, g3⟩ := h 3 _ rfl
    have e3 := g3 12 rfl
    obtain rfl : v3 = .int .i64 7 := s3
    obtain ⟨v4, s4, g4⟩ := h 4 _ rfl
    have e4 := g4 13 rfl
    obtain rfl : v4 = .bool true := s4
    obtain ⟨v5, s5, g5⟩ := h 5 _ rfl
    have e5 := g5 14 rfl
    obtain rfl : v5 = .bool true := s5
    obtain ⟨v6, s6, g6⟩ := h 6 _ rfl
    have e6 := g6 15 rfl
    obtain rfl : v6 = .bool true := s6
    obtain ⟨v7, s7, g7⟩ := h 7 _ rfl
    have e7 := g7 16 rfl
    obtain rfl : v7 = sp aliveP := s7
    obtain ⟨v8, s8, g8⟩ := h 8 _ rfl
    have e8 := g8 17 rfl
    obtain rfl : v8 = sp (fun j => decide (97 ≤ j) && decide (j ≤ 99)) := s8
    obtain ⟨v9, s9, g9⟩ := h 9 _ rfl
    have e9 := g9 18 rfl
    obtain rfl : v9 = sp (fun j => decide (48 ≤ j) && decide (j ≤ 57)) := s9
    obtain ⟨v10, s10, g10⟩ := h 10 _ rfl
    have e10 := g10 19 rfl
    obtain rfl : v10 = sp aliveQ := s10
    obtain ⟨v11, s11, g11⟩ := h 11 _ rfl
    have e11 := g11 20 rfl
    obtain rfl : v11 = .bool true := s11
    obtain ⟨v12, s12, g12⟩ := h 12 _ rfl
    have e12 := g12 21 rfl
    obtain rfl : v12 = .bool true := s12
    obtain ⟨v13, s13, g13⟩ := h 13 _ rfl
    have e13 := g13 22 rfl
    obtain rfl : v13 = .bool true := s13
    obtain ⟨v14, s14, g14⟩ := h 14 _ rfl
    have e14 := g14 23 rfl
    obtain rfl : v14 = sp (fun j => j == 97) := s14
    obtain ⟨v15, s15, g15⟩ := h 15 _ rfl
    have e15 := g15 24 rfl
    obtain rfl : v15 = .string ⟨#[97]⟩ := s15
    obtain ⟨v16, s16, g16⟩ := h 16 _ rfl
    have e16 := g16 25 rfl
    obtain rfl : v16 = .bool true := s16
    obtain ⟨v17, s17, g17⟩ := h 17 _ rfl
    have e17 := g17 26 rfl
    obtain rfl : v17 = .bool true := s17
    obtain ⟨v18, s18, g18⟩ := h 18 _ rfl
    have e18 := g18 0 rfl
    obtain rfl : v18 = .bool true := s18
    have ha := act_of [(9, .nilIface), (10, .bool true), (11, .bool true), (12, .int .i64 7), (13, .bool true), (14, .bool true), (15, .bool true), (16, sp aliveP), (17, sp (fun j => decide (97 ≤ j) && decide (j ≤ 99))), (18, sp (fun j => decide (48 ≤ j) && decide (j ≤ 57))), (19, sp aliveQ), (20, .bool true), (21, .bool true), (22, .bool true), (23, sp (fun j => j == 97)), (24, .string ⟨#[97]⟩), (25, .bool true), (26, .bool true), (0, .bool true)] rfl hsz hdf (by intro p hp; simp only [List.mem_cons, List.not_mem_nil, or_false] at hp; rcases hp with rfl | rfl | rfl | rfl | rfl | rfl | rfl | rfl | rfl | rfl | rfl | rfl | rfl | rfl | rfl | rfl | rfl | rfl | rfl <;> first | exact e0 | exact e1 | exact e2 | exact e3 | exact e4 | exact e5 | exact e6 | exact e7 | exact e8 | exact e9 | exact e10 | exact e11 | exact e12 | exact e13 | exact e14 | exact e15 | exact e16 | exact e17 | exact e18) hrest
    clear h hrest hsz hdf e0 e1 e2 e3 e4 e5 e6 e7 e8 e9 e10 e11 e12 e13 e14 e15 e16 e17 e18 g0 g1 g2 g3 g4 g5 g6 g7 g8 g9 g10 g11 g12 g13 g14 g15 g16 g17 g18
    subst ha
    simp only [List.foldl_cons, List.foldl_nil, Act.put, List.setIfInBounds_toArray, List.set_cons_succ, List.set_cons_zero]
  -- GAD ClAlive2
    go_wp2
    go_ret
    exact ⟨by simp, hxw.trans hE⟩
end Go.Proofs.YtkknhocehladdaaDoor
