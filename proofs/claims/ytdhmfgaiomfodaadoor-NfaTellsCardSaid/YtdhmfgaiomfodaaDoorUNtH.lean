/- Put together: Nf17. -/
import Derived.Test.YtdhmfgaiomfodaaDoorUNtG
import Derived.Deep.LoopGhost
import Derived.Deep.DeepCutAuto
namespace Go.Proofs.YtdhmfgaiomfodaaDoor
open Go Go.RowKit
attribute [local irreducible] wd

theorem ib_range {w : World} {g : Nat} {i : Ins} (h : IB w g i) : w.rangeAt g 0 (diC i) := fun j v hv => by rw [Nat.zero_add, Blk.cell h]; exact hv
theorem ib_there {w : World} {g : Nat} {i : Ins} (h : IB w g i) : w.there g 4 256 := fun j hj => ⟨by rw [IB.set h hj]; rfl, Blk.frozen h _⟩
theorem IB.chg1 {w w' : World} {g : Nat} {i : Ins} {X : List Nat} (h : IB w g i) (hc : Chg X w w') (hg : g ∉ X) : IB w' g i := Blk.chg h hc hg
theorem setCells_chg {g : Nat} : ∀ (vs : List Value) (o : Nat) (w : World), Chg [g] w (w.setCells g o vs) := by
  intro vs
  induction vs with
  | nil => intro o w; exact Chg.refl _ _
  | cons v r ih => intro o w; exact ((Chg.refl _ _).setCell (p := ⟨g, o, none⟩) (by simp) _).trans (ih (o + 1) _)
theorem di_neq (x y : Ins) (w : World) : (binOp .neq 47 (.agg (diC x).toArray) (.agg (diC y).toArray)).run Tryd.prog w = .ok (.bool (!insEqB x y)) w := by
  rw [run_neq_struct, diEq]
  rfl
theorem di_eql (x y : Ins) (w : World) : (binOp .eql 47 (.agg (diC x).toArray) (.agg (diC y).toArray)).run Tryd.prog w = .ok (.bool (insEqB x y)) w := by
  rw [run_eql_struct, diEq]
  rfl
theorem di_guard (op : BinOp) (a b : Operand) (x y : Ins) (w : World) : (eqGuard op 47 a b (.agg (diC x).toArray) (.agg (diC y).toArray)).run Tryd.prog w = .ok () w :=
  run_eqGuard_agg w op _ a b _ _ (by kernel_rfl)
theorem el {a : Act} {t : Nat} {x : Value} (h : ∃ v, a.tmps[t]? = some v ∧ v = x) : a.tmps[t]? = some x := by
  obtain ⟨v, h1, rfl⟩ := h
  exact h1
theorem el0 {a b : Act} {t : Nat} {x : Value} (h : ∃ v, a.tmps[t]? = some v ∧ b.tmps[t]? = some v) (hx : b.tmps[t]? = some x) : a.tmps[t]? = some x := by
  obtain ⟨v, h1, h2⟩ := h
  rw [h1, ← h2, hx]
theorem int_le_not (a b : Int) : decide (a ≤ b) = !decide (b < a) := by
  by_cases h : a ≤ b
  · rw [decide_eq_true h, decide_eq_false (by omega)]; rfl
  · rw [decide_eq_false h, decide_eq_true (by omega)]; rfl
theorem rightI_chain (xi : Ins) (N g : Nat) (h1 : ¬ xi.op < 1) (h5 : ¬ 5 < xi.op) :
    rightI xi N g = !(((((!insEqB xi (bareI xi) || decide (xi.x < 0)) || decide ((N : Int) ≤ xi.x)) || decide (xi.y < 0)) || decide ((N : Int) ≤ xi.y)) || ((xi.op == 4) && (decide (xi.n < 2) || decide (2 * (g : Int) + 1 < xi.n)))) := by
  unfold rightI
  rw [decide_eq_false h1, decide_eq_false h5, int_le_not 2 xi.n, int_le_not xi.n]
  cases insEqB xi (bareI xi) <;> cases decide (xi.x < 0) <;> cases decide ((N : Int) ≤ xi.x) <;> cases decide (xi.y < 0) <;> cases decide ((N : Int) ≤ xi.y) <;> cases (xi.op == 4) <;> cases decide (xi.n < 2) <;> cases decide (2 * (g : Int) + 1 < xi.n) <;> rfl
set_option maxHeartbeats 8000000 in
set_option maxRecDepth 20000 in
theorem refRight25 (c : List Ins) (N : Nat) (hN : c.length = N) (hl : N ≤ 100000) (G : Int) (A : Option Addr) (cc : Nat) (w : World) (hR : Rd w 260 A N (codeD c)) :
    Calls Tryd.prog 21 #[.slice A N cc, .int .i64 G] w fun e w' => e = .returned (.bool (rightB c G)) ∧ Ext w w' := by
  have HR := Lib.hid hR
  have HN := Lib.hid hN
  obtain ⟨V, hV⟩ : ∃ V, rightB c G = V := ⟨_, rfl⟩
  rw [hV]
  unfold rightB at hV
  rw [hN] at hV
  clear hR hN
  by_cases h0 : N = 0
  · subst h0
    obtain rfl : V = false := by rw [← hV]; rfl
    clear hV hl
    go_enter Tryd.func21, Tryd.ntmps21
    go_wp2
    go_ret
    exact ⟨rfl, Ext.refl _⟩
  have l1 : ((N : Int) == 0) = false := beq_eq_false_iff_ne.2 (by omega)
  rw [decide_eq_true (show 1 ≤ N by omega), Bool.true_and] at hV
  by_cases h4 : N ≤ 400
  rotate_left
  · have l2 : (400 : Int) < (N : Int) := by omega
    obtain rfl : V = false := by rw [← hV, decide_eq_false h4]; rfl
    clear hV h0 h4 hl
    go_enter Tryd.func21, Tryd.ntmps21
    go_wp2
    go_ret
    exact ⟨rfl, Ext.refl _⟩
  have l2 : ¬ (400 : Int) < (N : Int) := by omega
  rw [decide_eq_true h4, Bool.true_and] at hV
  by_cases hg0 : 0 ≤ G
  rotate_left
  · have l3 : G < 0 := by omega
    obtain rfl : V = false := by rw [← hV, decide_eq_false hg0]; rfl
    clear hV h0 h4 hg0 hl
    go_enter Tryd.func21, Tryd.ntmps21
    go_wp2
    go_ret
    exact ⟨rfl, Ext.refl _⟩
  have l3 : ¬ G < 0 := by omega
  rw [decide_eq_true hg0, Bool.true_and] at hV
  by_cases hg9 : G ≤ 9
  rotate_left
  · have l4 : (9 : Int) < G := by omega
    obtain rfl : V = false := by rw [← hV, decide_eq_false hg9]; rfl
    clear hV h0 h4 hg0 hg9 hl
    go_enter Tryd.func21, Tryd.ntmps21
    go_wp2
    go_ret
    exact ⟨rfl, Ext.refl _⟩
  have l4 : ¬ (9 : Int) < G := by omega
  rw [decide_eq_true hg9, Bool.true_and] at hV
  obtain ⟨x0, hx0⟩ : ∃ xi, c[c.length - 1]? = some xi := ⟨_, List.getElem?_eq_getElem (by have := HN.out; omega)⟩
  have hlb : lastB c = (x0.op == 5 || x0.op == 2) := by unfold lastB; rw [hx0]
  rw [hlb] at hV
  obtain ⟨bA, oA, hA, hbA, hrg⟩ := codeD_at (c := c) (by rw [HN.out]; exact HR.out) hx0
  subst hA
  obtain ⟨L, hL⟩ : ∃ L, N - 1 = L := ⟨_, rfl⟩
  have c0 : w.cell? ⟨bA, oA + L * 260, none⟩ = some (.int .i64 x0.op) := by
    have := hrg 0 _ (di_0 x0)
    rwa [HN.out, hL] at this
  have l5 : (L : Int) < (N : Int) := by omega
  have hw : IntKind.i64.wrap ((N : Int) - 1) = (L : Int) := by rw [show (N : Int) - 1 = L by omega]; exact wrap_id (by omega) (by omega)
  clear hrg hx0 hlb hL h0 hbA
  by_cases h5 : x0.op = 5 ∨ x0.op = 2
  rotate_left
  · have n5 : (x0.op == 5) = false := beq_eq_false_iff_ne.2 (by omega)
    have n2 : (x0.op == 2) = false := beq_eq_false_iff_ne.2 (by omega)
    have n5' : (x0.op != 5) = true := by simpa using n5
    have n2' : (x0.op != 2) = true := by simpa using n2
    obtain rfl : V = false := by rw [← hV, n5, n2]; rfl
    clear hV n5 n2 h5 h4 hg0 hg9 hl
    go_enter Tryd.func21, Tryd.ntmps21
    go_wp2
    go_ret
    exact ⟨rfl, Ext.refl _⟩
  have hV2 : c.all (fun i => rightI i N G.toNat) = V := by
    rw [← hV]
    rcases h5 with h | h <;> rw [h] <;> simp
  obtain ⟨g, hg⟩ : ∃ g : Nat, G = g := ⟨G.toNat, by omega⟩
  subst hg
  rw [Int.toNat_natCast] at hV2
  have HV := Lib.hid hV2
  have HM := Lib.hid (show N ≤ 400 ∧ g ≤ 9 by omega)
  have hG2 : IntKind.i64.wrap (2 * (g : Int)) = 2 * (g : Int) := wrap_id (by omega) (by omega)
  have hG3 : IntKind.i64.wrap (2 * (g : Int) + 1) = 2 * (g : Int) + 1 := wrap_id (by omega) (by omega)
  clear hV hV2 h4 hg0 hg9 hl
  obtain ⟨bb5, hbb5⟩ : ∃ bb5, (x0.op != 5) = bb5 := ⟨_, rfl⟩
  have HB52 := Lib.hid (show bb5 = true → (x0.op != 2) = false from fun hb => by
    rw [← hbb5] at hb
    rcases h5 with h | h
    · rw [h] at hb; cases hb
    · rw [h]; rfl)
  have HBB := Lib.hid hbb5
  clear h5 hbb5
  go_enter Tryd.func21, Tryd.ntmps21
  go_upto_region 1 with fail
  refine wp_region_dag0 (E := fun a b : World => a = b) (w0 := w) (Φ := fun i v w => match i with | 0 => (v = .slice (some ⟨bA, oA, none⟩) N cc) | 1 => (v = .int .i64 (N : Nat)) | 2 => (v = .bool false) | 3 => (v = .bool false) | 4 => (v = .slice (some ⟨bA, oA, none⟩) N cc) | 5 => (v = .int .i64 (N : Nat)) | 6 => (v = .bool false) | 7 => (v = .bool false) | 8 => (v = .bool false) | 9 => (v = .int .i64 (g : Nat)) | 10 => (v = .bool false) | 11 => (v = .bool false) | 12 => (v = .bool false) | 13 => (v = .int .i64 (g : Nat)) | 14 => (v = .bool false) | 15 => (v = .bool false) | 16 => (v = .bool false) | 17 => (v = .slice (some ⟨bA, oA, none⟩) N cc) | 18 => (v = .slice (some ⟨bA, oA, none⟩) N cc) | 19 => (v = .int .i64 (N : Nat)) | 20 => (v = .int .i64 (L : Nat)) | 21 => (v = .pointer (some ⟨bA, oA + L * 260, none⟩)) | 22 => (v = .pointer (some ⟨bA, oA + L * 260, none⟩)) | 23 => (v = .int .i64 x0.op) | 24 => (v = .bool bb5) | 25 => (v = .bool bb5) | 26 => (v = sk (!bb5) (.slice (some ⟨bA, oA, none⟩) N cc)) | 27 => (v = sk (!bb5) (.slice (some ⟨bA, oA, none⟩) N cc)) | 28 => (v = sk (!bb5) (.int .i64 (N : Nat))) | 29 => (v = sk (!bb5) (.int .i64 (L : Nat))) | 30 => (v = sk (!bb5) (.pointer (some ⟨bA, oA + L * 260, none⟩))) | 31 => (v = sk (!bb5) (.pointer (some ⟨bA, oA + L * 260, none⟩))) | 32 => (v = sk (!bb5) (.int .i64 x0.op)) | 33 => (v = sk (!bb5) (.bool false)) | 34 => (v = .bool false) | 35 => (v = .bool false) | _ => True) 127 rfl (by decide +kernel) ?_ rfl ?_ ⟨?_, ?_, ?_, ?_, ?_, ?_, ?_, ?_, ?_, ?_, ?_, ?_, ?_, ?_, ?_, ?_, ?_, ?_, ?_, ?_, ?_, ?_, ?_, ?_, ?_, ?_, ?_, ?_, ?_, ?_, ?_, ?_, ?_, ?_, ?_, ?_, trivial⟩ ?_
  · intro i v w w' h hE
    match i, h with
    | 0, h => exact h
    | 1, h => exact h
    | 2, h => exact h
    | 3, h => exact h
    | 4, h => exact h
    | 5, h => exact h
    | 6, h => exact h
    | 7, h => exact h
    | 8, h => exact h
    | 9, h => exact h
    | 10, h => exact h
    | 11, h => exact h
    | 12, h => exact h
    | 13, h => exact h
    | 14, h => exact h
    | 15, h => exact h
    | 16, h => exact h
    | 17, h => exact h
    | 18, h => exact h
    | 19, h => exact h
    | 20, h => exact h
    | 21, h => exact h
    | 22, h => exact h
    | 23, h => exact h
    | 24, h => exact h
    | 25, h => exact h
    | 26, h => exact h
    | 27, h => exact h
    | 28, h => exact h
    | 29, h => exact h
    | 30, h => exact h
    | 31, h => exact h
    | 32, h => exact h
    | 33, h => exact h
    | 34, h => exact h
    | 35, h => exact h
    | _ + 36, _ => trivial
  · exact fun w w' h h' => h.trans h'
  · intro ac wx hE hsz hdf h
    obtain rfl : w = wx := hE
    have e0 : ac.tmps[0]? = some (.slice (some ⟨bA, oA, none⟩) N cc) := el0 (h 0 (by decide +kernel)) rfl
    clear h hsz hdf
    go_wp2
    all_goals first | exact ⟨_, rfl, rfl, (by first | rfl | trivial)⟩ | rfl
  · intro ac wx hE hsz hdf h
    obtain rfl : w = wx := hE
    have e8 : ac.tmps[8]? = some (.slice (some ⟨bA, oA, none⟩) N cc) := el (h 8 (by decide +kernel))
    clear h hsz hdf
    go_wp2
    all_goals first | exact ⟨_, rfl, rfl, (by first | rfl | trivial)⟩ | rfl
  · intro ac wx hE hsz hdf h
    obtain rfl : w = wx := hE
    have e9 : ac.tmps[9]? = some (.int .i64 (N : Nat)) := el (h 9 (by decide +kernel))
    clear h hsz hdf
    go_wp2
    all_goals first | exact ⟨_, rfl, rfl, (by first | rfl | trivial)⟩ | rfl
  · intro ac wx hE hsz hdf h
    obtain rfl : w = wx := hE
    have e10 : ac.tmps[10]? = some (.bool false) := el (h 10 (by decide +kernel))
    clear h hsz hdf
    go_wp2
    all_goals first | exact ⟨_, rfl, rfl, (by first | rfl | trivial)⟩ | rfl
  · intro ac wx hE hsz hdf h
    obtain rfl : w = wx := hE
    have e0 : ac.tmps[0]? = some (.slice (some ⟨bA, oA, none⟩) N cc) := el0 (h 0 (by decide +kernel)) rfl
    have e11 : ac.tmps[11]? = some (.bool false) := el (h 11 (by decide +kernel))
    clear h hsz hdf
    go_wp2
    all_goals first | exact ⟨_, rfl, rfl, (by first | rfl | trivial)⟩ | rfl
  · intro ac wx hE hsz hdf h
    obtain rfl : w = wx := hE
    have e12 : ac.tmps[12]? = some (.slice (some ⟨bA, oA, none⟩) N cc) := el (h 12 (by decide +kernel))
    have e11 : ac.tmps[11]? = some (.bool false) := el (h 11 (by decide +kernel))
    clear h hsz hdf
    go_wp2
    all_goals first | exact ⟨_, rfl, rfl, (by first | rfl | trivial)⟩ | rfl
  · intro ac wx hE hsz hdf h
    obtain rfl : w = wx := hE
    have e13 : ac.tmps[13]? = some (.int .i64 (N : Nat)) := el (h 13 (by decide +kernel))
    have e11 : ac.tmps[11]? = some (.bool false) := el (h 11 (by decide +kernel))
    clear h hsz hdf
    go_wp2
    all_goals first | exact ⟨_, rfl, rfl, (by first | rfl | trivial)⟩ | rfl
  · intro ac wx hE hsz hdf h
    obtain rfl : w = wx := hE
    have e11 : ac.tmps[11]? = some (.bool false) := el (h 11 (by decide +kernel))
    have e14 : ac.tmps[14]? = some (.bool false) := el (h 14 (by decide +kernel))
    clear h hsz hdf
    go_wp2
    all_goals first | exact ⟨_, rfl, rfl, (by first | rfl | trivial)⟩ | rfl
  · intro ac wx hE hsz hdf h
    obtain rfl : w = wx := hE
    have e15 : ac.tmps[15]? = some (.bool false) := el (h 15 (by decide +kernel))
    clear h hsz hdf
    go_wp2
    all_goals first | exact ⟨_, rfl, rfl, (by first | rfl | trivial)⟩ | rfl
  · intro ac wx hE hsz hdf h
    obtain rfl : w = wx := hE
    have e1 : ac.tmps[1]? = some (.int .i64 (g : Nat)) := el0 (h 1 (by decide +kernel)) rfl
    have e16 : ac.tmps[16]? = some (.bool false) := el (h 16 (by decide +kernel))
    clear h hsz hdf
    go_wp2
    all_goals first | exact ⟨_, rfl, rfl, (by first | rfl | trivial)⟩ | rfl
  · intro ac wx hE hsz hdf h
    obtain rfl : w = wx := hE
    have e17 : ac.tmps[17]? = some (.int .i64 (g : Nat)) := el (h 17 (by decide +kernel))
    have e16 : ac.tmps[16]? = some (.bool false) := el (h 16 (by decide +kernel))
    clear h hsz hdf
    go_wp2
    all_goals first | exact ⟨_, rfl, rfl, (by first | rfl | trivial)⟩ | rfl
  · intro ac wx hE hsz hdf h
    obtain rfl : w = wx := hE
    have e16 : ac.tmps[16]? = some (.bool false) := el (h 16 (by decide +kernel))
    have e18 : ac.tmps[18]? = some (.bool false) := el (h 18 (by decide +kernel))
    clear h hsz hdf
    go_wp2
    all_goals first | exact ⟨_, rfl, rfl, (by first | rfl | trivial)⟩ | rfl
  · intro ac wx hE hsz hdf h
    obtain rfl : w = wx := hE
    have e19 : ac.tmps[19]? = some (.bool false) := el (h 19 (by decide +kernel))
    clear h hsz hdf
    go_wp2
    all_goals first | exact ⟨_, rfl, rfl, (by first | rfl | trivial)⟩ | rfl
  · intro ac wx hE hsz hdf h
    obtain rfl : w = wx := hE
    have e1 : ac.tmps[1]? = some (.int .i64 (g : Nat)) := el0 (h 1 (by decide +kernel)) rfl
    have e20 : ac.tmps[20]? = some (.bool false) := el (h 20 (by decide +kernel))
    clear h hsz hdf
    go_wp2
    all_goals first | exact ⟨_, rfl, rfl, (by first | rfl | trivial)⟩ | rfl
  · intro ac wx hE hsz hdf h
    obtain rfl : w = wx := hE
    have e21 : ac.tmps[21]? = some (.int .i64 (g : Nat)) := el (h 21 (by decide +kernel))
    have e20 : ac.tmps[20]? = some (.bool false) := el (h 20 (by decide +kernel))
    clear h hsz hdf
    go_wp2
    all_goals first | exact ⟨_, rfl, rfl, (by first | rfl | trivial)⟩ | rfl
  · intro ac wx hE hsz hdf h
    obtain rfl : w = wx := hE
    have e20 : ac.tmps[20]? = some (.bool false) := el (h 20 (by decide +kernel))
    have e22 : ac.tmps[22]? = some (.bool false) := el (h 22 (by decide +kernel))
    clear h hsz hdf
    go_wp2
    all_goals first | exact ⟨_, rfl, rfl, (by first | rfl | trivial)⟩ | rfl
  · intro ac wx hE hsz hdf h
    obtain rfl : w = wx := hE
    have e23 : ac.tmps[23]? = some (.bool false) := el (h 23 (by decide +kernel))
    clear h hsz hdf
    go_wp2
    all_goals first | exact ⟨_, rfl, rfl, (by first | rfl | trivial)⟩ | rfl
  · intro ac wx hE hsz hdf h
    obtain rfl : w = wx := hE
    have e0 : ac.tmps[0]? = some (.slice (some ⟨bA, oA, none⟩) N cc) := el0 (h 0 (by decide +kernel)) rfl
    have e24 : ac.tmps[24]? = some (.bool false) := el (h 24 (by decide +kernel))
    clear h hsz hdf
    go_wp2
    all_goals first | exact ⟨_, rfl, rfl, (by first | rfl | trivial)⟩ | rfl
  · intro ac wx hE hsz hdf h
    obtain rfl : w = wx := hE
    have e0 : ac.tmps[0]? = some (.slice (some ⟨bA, oA, none⟩) N cc) := el0 (h 0 (by decide +kernel)) rfl
    have e24 : ac.tmps[24]? = some (.bool false) := el (h 24 (by decide +kernel))
    clear h hsz hdf
    go_wp2
    all_goals first | exact ⟨_, rfl, rfl, (by first | rfl | trivial)⟩ | rfl
  · intro ac wx hE hsz hdf h
    obtain rfl : w = wx := hE
    have e26 : ac.tmps[26]? = some (.slice (some ⟨bA, oA, none⟩) N cc) := el (h 26 (by decide +kernel))
    have e24 : ac.tmps[24]? = some (.bool false) := el (h 24 (by decide +kernel))
    clear h hsz hdf
    go_wp2
    all_goals first | exact ⟨_, rfl, rfl, (by first | rfl | trivial)⟩ | rfl
  · intro ac wx hE hsz hdf h
    obtain rfl : w = wx := hE
    have e27 : ac.tmps[27]? = some (.int .i64 (N : Nat)) := el (h 27 (by decide +kernel))
    have e24 : ac.tmps[24]? = some (.bool false) := el (h 24 (by decide +kernel))
    clear h hsz hdf
    go_wp2
    all_goals first | exact ⟨_, rfl, rfl, (by first | rfl | trivial)⟩ | rfl
  · intro ac wx hE hsz hdf h
    obtain rfl : w = wx := hE
    have e25 : ac.tmps[25]? = some (.slice (some ⟨bA, oA, none⟩) N cc) := el (h 25 (by decide +kernel))
    have e28 : ac.tmps[28]? = some (.int .i64 (L : Nat)) := el (h 28 (by decide +kernel))
    have e24 : ac.tmps[24]? = some (.bool false) := el (h 24 (by decide +kernel))
    clear h hsz hdf
    go_wp2
    all_goals first | exact ⟨_, rfl, rfl, (by first | rfl | trivial)⟩ | rfl
  · intro ac wx hE hsz hdf h
    obtain rfl : w = wx := hE
    have e29 : ac.tmps[29]? = some (.pointer (some ⟨bA, oA + L * 260, none⟩)) := el (h 29 (by decide +kernel))
    have e24 : ac.tmps[24]? = some (.bool false) := el (h 24 (by decide +kernel))
    clear h hsz hdf
    go_wp2
    all_goals first | exact ⟨_, rfl, rfl, (by first | rfl | trivial)⟩ | rfl
  · intro ac wx hE hsz hdf h
    obtain rfl : w = wx := hE
    have e30 : ac.tmps[30]? = some (.pointer (some ⟨bA, oA + L * 260, none⟩)) := el (h 30 (by decide +kernel))
    have e24 : ac.tmps[24]? = some (.bool false) := el (h 24 (by decide +kernel))
    clear h hsz hdf
    go_wp2
    all_goals first | exact ⟨_, rfl, rfl, (by first | rfl | trivial)⟩ | rfl
  · intro ac wx hE hsz hdf h
    obtain rfl : w = wx := hE
    have e31 : ac.tmps[31]? = some (.int .i64 x0.op) := el (h 31 (by decide +kernel))
    have e24 : ac.tmps[24]? = some (.bool false) := el (h 24 (by decide +kernel))
    clear h hsz hdf
    go_wp2
    all_goals first | exact ⟨_, rfl, (by rw [← HBB.out]; first | done | rfl), (by first | rfl | trivial)⟩ | (rw [← HBB.out]; first | done | rfl)
  · intro ac wx hE hsz hdf h
    obtain rfl : w = wx := hE
    have e32 : ac.tmps[32]? = some (.bool bb5) := el (h 32 (by decide +kernel))
    have e24 : ac.tmps[24]? = some (.bool false) := el (h 24 (by decide +kernel))
    clear h hsz hdf
    go_wp2
    all_goals first | exact ⟨_, rfl, rfl, (by first | rfl | trivial)⟩ | rfl
  · intro ac wx hE hsz hdf h
    obtain rfl : w = wx := hE
    cases bb5
    · have e0 : ac.tmps[0]? = some (.slice (some ⟨bA, oA, none⟩) N cc) := el0 (h 0 (by decide +kernel)) rfl
      have e33 : ac.tmps[33]? = some (.bool false) := el (h 33 (by decide +kernel))
      clear h hsz hdf
      go_wp2
      all_goals first | exact ⟨_, rfl, rfl, (by first | rfl | trivial)⟩ | rfl
    · have e0 : ac.tmps[0]? = some (.slice (some ⟨bA, oA, none⟩) N cc) := el0 (h 0 (by decide +kernel)) rfl
      have e33 : ac.tmps[33]? = some (.bool true) := el (h 33 (by decide +kernel))
      clear h hsz hdf
      go_wp2
      all_goals first | exact ⟨_, rfl, rfl, (by first | rfl | trivial)⟩ | rfl
  · intro ac wx hE hsz hdf h
    obtain rfl : w = wx := hE
    cases bb5
    · have e0 : ac.tmps[0]? = some (.slice (some ⟨bA, oA, none⟩) N cc) := el0 (h 0 (by decide +kernel)) rfl
      have e33 : ac.tmps[33]? = some (.bool false) := el (h 33 (by decide +kernel))
      clear h hsz hdf
      go_wp2
      all_goals first | exact ⟨_, rfl, rfl, (by first | rfl | trivial)⟩ | rfl
    · have e0 : ac.tmps[0]? = some (.slice (some ⟨bA, oA, none⟩) N cc) := el0 (h 0 (by decide +kernel)) rfl
      have e33 : ac.tmps[33]? = some (.bool true) := el (h 33 (by decide +kernel))
      clear h hsz hdf
      go_wp2
      all_goals first | exact ⟨_, rfl, rfl, (by first | rfl | trivial)⟩ | rfl
  · intro ac wx hE hsz hdf h
    obtain rfl : w = wx := hE
    cases bb5
    · have e35 : ac.tmps[35]? = some (undef) := el (h 35 (by decide +kernel))
      have e33 : ac.tmps[33]? = some (.bool false) := el (h 33 (by decide +kernel))
      clear h hsz hdf
      go_wp2
      all_goals first | exact ⟨_, rfl, rfl, (by first | rfl | trivial)⟩ | rfl
    · have e35 : ac.tmps[35]? = some (.slice (some ⟨bA, oA, none⟩) N cc) := el (h 35 (by decide +kernel))
      have e33 : ac.tmps[33]? = some (.bool true) := el (h 33 (by decide +kernel))
      clear h hsz hdf
      go_wp2
      all_goals first | exact ⟨_, rfl, rfl, (by first | rfl | trivial)⟩ | rfl
  · intro ac wx hE hsz hdf h
    obtain rfl : w = wx := hE
    cases bb5
    · have e36 : ac.tmps[36]? = some (undef) := el (h 36 (by decide +kernel))
      have e33 : ac.tmps[33]? = some (.bool false) := el (h 33 (by decide +kernel))
      clear h hsz hdf
      go_wp2
      all_goals first | exact ⟨_, rfl, rfl, (by first | rfl | trivial)⟩ | rfl
    · have e36 : ac.tmps[36]? = some (.int .i64 (N : Nat)) := el (h 36 (by decide +kernel))
      have e33 : ac.tmps[33]? = some (.bool true) := el (h 33 (by decide +kernel))
      clear h hsz hdf
      go_wp2
      all_goals first | exact ⟨_, rfl, rfl, (by first | rfl | trivial)⟩ | rfl
  · intro ac wx hE hsz hdf h
    obtain rfl : w = wx := hE
    cases bb5
    · have e34 : ac.tmps[34]? = some (undef) := el (h 34 (by decide +kernel))
      have e37 : ac.tmps[37]? = some (undef) := el (h 37 (by decide +kernel))
      have e33 : ac.tmps[33]? = some (.bool false) := el (h 33 (by decide +kernel))
      clear h hsz hdf
      go_wp2
      all_goals first | exact ⟨_, rfl, rfl, (by first | rfl | trivial)⟩ | rfl
    · have e34 : ac.tmps[34]? = some (.slice (some ⟨bA, oA, none⟩) N cc) := el (h 34 (by decide +kernel))
      have e37 : ac.tmps[37]? = some (.int .i64 (L : Nat)) := el (h 37 (by decide +kernel))
      have e33 : ac.tmps[33]? = some (.bool true) := el (h 33 (by decide +kernel))
      clear h hsz hdf
      go_wp2
      all_goals first | exact ⟨_, rfl, rfl, (by first | rfl | trivial)⟩ | rfl
  · intro ac wx hE hsz hdf h
    obtain rfl : w = wx := hE
    cases bb5
    · have e38 : ac.tmps[38]? = some (undef) := el (h 38 (by decide +kernel))
      have e33 : ac.tmps[33]? = some (.bool false) := el (h 33 (by decide +kernel))
      clear h hsz hdf
      go_wp2
      all_goals first | exact ⟨_, rfl, rfl, (by first | rfl | trivial)⟩ | rfl
    · have e38 : ac.tmps[38]? = some (.pointer (some ⟨bA, oA + L * 260, none⟩)) := el (h 38 (by decide +kernel))
      have e33 : ac.tmps[33]? = some (.bool true) := el (h 33 (by decide +kernel))
      clear h hsz hdf
      go_wp2
      all_goals first | exact ⟨_, rfl, rfl, (by first | rfl | trivial)⟩ | rfl
  · intro ac wx hE hsz hdf h
    obtain rfl : w = wx := hE
    cases bb5
    · have e39 : ac.tmps[39]? = some (undef) := el (h 39 (by decide +kernel))
      have e33 : ac.tmps[33]? = some (.bool false) := el (h 33 (by decide +kernel))
      clear h hsz hdf
      go_wp2
      all_goals first | exact ⟨_, rfl, rfl, (by first | rfl | trivial)⟩ | rfl
    · have e39 : ac.tmps[39]? = some (.pointer (some ⟨bA, oA + L * 260, none⟩)) := el (h 39 (by decide +kernel))
      have e33 : ac.tmps[33]? = some (.bool true) := el (h 33 (by decide +kernel))
      clear h hsz hdf
      go_wp2
      all_goals first | exact ⟨_, rfl, rfl, (by first | rfl | trivial)⟩ | rfl
  · intro ac wx hE hsz hdf h
    obtain rfl : w = wx := hE
    cases bb5
    · have e40 : ac.tmps[40]? = some (undef) := el (h 40 (by decide +kernel))
      have e33 : ac.tmps[33]? = some (.bool false) := el (h 33 (by decide +kernel))
      clear h hsz hdf
      go_wp2
      all_goals first | exact ⟨_, rfl, rfl, (by first | rfl | trivial)⟩ | rfl
    · have e40 : ac.tmps[40]? = some (.int .i64 x0.op) := el (h 40 (by decide +kernel))
      have e33 : ac.tmps[33]? = some (.bool true) := el (h 33 (by decide +kernel))
      clear h hsz hdf
      have h2 := HB52.out rfl
      go_wp2
      all_goals first | exact ⟨_, rfl, rfl, (by first | rfl | trivial)⟩ | rfl
  · intro ac wx hE hsz hdf h
    obtain rfl : w = wx := hE
    cases bb5
    · have e33 : ac.tmps[33]? = some (.bool false) := el (h 33 (by decide +kernel))
      have e41 : ac.tmps[41]? = some (undef) := el (h 41 (by decide +kernel))
      have e24 : ac.tmps[24]? = some (.bool false) := el (h 24 (by decide +kernel))
      clear h hsz hdf
      go_wp2
      all_goals first | exact ⟨_, rfl, rfl, (by first | rfl | trivial)⟩ | rfl
    · have e33 : ac.tmps[33]? = some (.bool true) := el (h 33 (by decide +kernel))
      have e41 : ac.tmps[41]? = some (.bool false) := el (h 41 (by decide +kernel))
      have e24 : ac.tmps[24]? = some (.bool false) := el (h 24 (by decide +kernel))
      clear h hsz hdf
      go_wp2
      all_goals first | exact ⟨_, rfl, rfl, (by first | rfl | trivial)⟩ | rfl
  · intro ac wx hE hsz hdf h
    obtain rfl : w = wx := hE
    have e24 : ac.tmps[24]? = some (.bool false) := el (h 24 (by decide +kernel))
    have e42 : ac.tmps[42]? = some (.bool false) := el (h 42 (by decide +kernel))
    clear h hsz hdf
    go_wp2
    all_goals first | exact ⟨_, rfl, rfl, (by first | rfl | trivial)⟩ | rfl
  · intro ac w9 hE hsz hdf h hrest
    obtain ⟨v0, s0, g0⟩ := h 0 _ rfl
    have e0 := g0 8 rfl
    obtain rfl : v0 = .slice (some ⟨bA, oA, none⟩) N cc := s0
    obtain ⟨v1, s1, g1⟩ := h 1 _ rfl
    have e1 := g1 9 rfl
    obtain rfl : v1 = .int .i64 (N : Nat) := s1
    obtain ⟨v2, s2, g2⟩ := h 2 _ rfl
    have e2 := g2 10 rfl
    obtain rfl : v2 = .bool false := s2
    obtain ⟨v3, s3, g3⟩ := h 3 _ rfl
    have e3 := g3 11 rfl
    obtain rfl : v3 = .bool false := s3
    obtain ⟨v4, s4, g4⟩ := h 4 _ rfl
    have e4 := g4 12 rfl
    obtain rfl : v4 = .slice (some ⟨bA, oA, none⟩) N cc := s4
    obtain ⟨v5, s5, g5⟩ := h 5 _ rfl
    have e5 := g5 13 rfl
    obtain rfl : v5 = .int .i64 (N : Nat) := s5
    obtain ⟨v6, s6, g6⟩ := h 6 _ rfl
    have e6 := g6 14 rfl
    obtain rfl : v6 = .bool false := s6
    obtain ⟨v7, s7, g7⟩ := h 7 _ rfl
    have e7 := g7 15 rfl
    obtain rfl : v7 = .bool false := s7
    obtain ⟨v8, s8, g8⟩ := h 8 _ rfl
    have e8 := g8 16 rfl
    obtain rfl : v8 = .bool false := s8
    obtain ⟨v9, s9, g9⟩ := h 9 _ rfl
    have e9 := g9 17 rfl
    obtain rfl : v9 = .int .i64 (g : Nat) := s9
    obtain ⟨v10, s10, g10⟩ := h 10 _ rfl
    have e10 := g10 18 rfl
    obtain rfl : v10 = .bool false := s10
    obtain ⟨v11, s11, g11⟩ := h 11 _ rfl
    have e11 := g11 19 rfl
    obtain rfl : v11 = .bool false := s11
    obtain ⟨v12, s12, g12⟩ := h 12 _ rfl
    have e12 := g12 20 rfl
    obtain rfl : v12 = .bool false := s12
    obtain ⟨v13, s13, g13⟩ := h 13 _ rfl
    have e13 := g13 21 rfl
    obtain rfl : v13 = .int .i64 (g : Nat) := s13
    obtain ⟨v14, s14, g14⟩ := h 14 _ rfl
    have e14 := g14 22 rfl
    obtain rfl : v14 = .bool false := s14
    obtain ⟨v15, s15, g15⟩ := h 15 _ rfl
    have e15 := g15 23 rfl
    obtain rfl : v15 = .bool false := s15
    obtain ⟨v16, s16, g16⟩ := h 16 _ rfl
    have e16 := g16 24 rfl
    obtain rfl : v16 = .bool false := s16
    obtain ⟨v17, s17, g17⟩ := h 17 _ rfl
    have e17 := g17 25 rfl
    obtain rfl : v17 = .slice (some ⟨bA, oA, none⟩) N cc := s17
    obtain ⟨v18, s18, g18⟩ := h 18 _ rfl
    have e18 := g18 26 rfl
    obtain rfl : v18 = .slice (some ⟨bA, oA, none⟩) N cc := s18
    obtain ⟨v19, s19, g19⟩ := h 19 _ rfl
    have e19 := g19 27 rfl
    obtain rfl : v19 = .int .i64 (N : Nat) := s19
    obtain ⟨v20, s20, g20⟩ := h 20 _ rfl
    have e20 := g20 28 rfl
    obtain rfl : v20 = .int .i64 (L : Nat) := s20
    obtain ⟨v21, s21, g21⟩ := h 21 _ rfl
    have e21 := g21 29 rfl
    obtain rfl : v21 = .pointer (some ⟨bA, oA + L * 260, none⟩) := s21
    obtain ⟨v22, s22, g22⟩ := h 22 _ rfl
    have e22 := g22 30 rfl
    obtain rfl : v22 = .pointer (some ⟨bA, oA + L * 260, none⟩) := s22
    obtain ⟨v23, s23, g23⟩ := h 23 _ rfl
    have e23 := g23 31 rfl
    obtain rfl : v23 = .int .i64 x0.op := s23
    obtain ⟨v24, s24, g24⟩ := h 24 _ rfl
    have e24 := g24 32 rfl
    obtain rfl : v24 = .bool bb5 := s24
    obtain ⟨v25, s25, g25⟩ := h 25 _ rfl
    have e25 := g25 33 rfl
    obtain rfl : v25 = .bool bb5 := s25
    obtain ⟨v26, s26, g26⟩ := h 26 _ rfl
    have e26 := g26 34 rfl
    obtain rfl : v26 = sk (!bb5) (.slice (some ⟨bA, oA, none⟩) N cc) := s26
    obtain ⟨v27, s27, g27⟩ := h 27 _ rfl
    have e27 := g27 35 rfl
    obtain rfl : v27 = sk (!bb5) (.slice (some ⟨bA, oA, none⟩) N cc) := s27
    obtain ⟨v28, s28, g28⟩ := h 28 _ rfl
    have e28 := g28 36 rfl
    obtain rfl : v28 = sk (!bb5) (.int .i64 (N : Nat)) := s28
    obtain ⟨v29, s29, g29⟩ := h 29 _ rfl
    have e29 := g29 37 rfl
    obtain rfl : v29 = sk (!bb5) (.int .i64 (L : Nat)) := s29
    obtain ⟨v30, s30, g30⟩ := h 30 _ rfl
    have e30 := g30 38 rfl
    obtain rfl : v30 = sk (!bb5) (.pointer (some ⟨bA, oA + L * 260, none⟩)) := s30
    obtain ⟨v31, s31, g31⟩ := h 31 _ rfl
    have e31 := g31 39 rfl
    obtain rfl : v31 = sk (!bb5) (.pointer (some ⟨bA, oA + L * 260, none⟩)) := s31
    obtain ⟨v32, s32, g32⟩ := h 32 _ rfl
    have e32 := g32 40 rfl
    obtain rfl : v32 = sk (!bb5) (.int .i64 x0.op) := s32
    obtain ⟨v33, s33, g33⟩ := h 33 _ rfl
    have e33 := g33 41 rfl
    obtain rfl : v33 = sk (!bb5) (.bool false) := s33
    obtain ⟨v34, s34, g34⟩ := h 34 _ rfl
    have e34 := g34 42 rfl
    obtain rfl : v34 = .bool false := s34
    obtain ⟨v35, s35, g35⟩ := h 35 _ rfl
    have e35 := g35 43 rfl
    obtain rfl : v35 = .bool false := s35
    have ha := act_of [(8, .slice (some ⟨bA, oA, none⟩) N cc), (9, .int .i64 (N : Nat)), (10, .bool false), (11, .bool false), (12, .slice (some ⟨bA, oA, none⟩) N cc), (13, .int .i64 (N : Nat)), (14, .bool false), (15, .bool false), (16, .bool false), (17, .int .i64 (g : Nat)), (18, .bool false), (19, .bool false), (20, .bool false), (21, .int .i64 (g : Nat)), (22, .bool false), (23, .bool false), (24, .bool false), (25, .slice (some ⟨bA, oA, none⟩) N cc), (26, .slice (some ⟨bA, oA, none⟩) N cc), (27, .int .i64 (N : Nat)), (28, .int .i64 (L : Nat)), (29, .pointer (some ⟨bA, oA + L * 260, none⟩)), (30, .pointer (some ⟨bA, oA + L * 260, none⟩)), (31, .int .i64 x0.op), (32, .bool bb5), (33, .bool bb5), (34, sk (!bb5) (.slice (some ⟨bA, oA, none⟩) N cc)), (35, sk (!bb5) (.slice (some ⟨bA, oA, none⟩) N cc)), (36, sk (!bb5) (.int .i64 (N : Nat))), (37, sk (!bb5) (.int .i64 (L : Nat))), (38, sk (!bb5) (.pointer (some ⟨bA, oA + L * 260, none⟩))), (39, sk (!bb5) (.pointer (some ⟨bA, oA + L * 260, none⟩))), (40, sk (!bb5) (.int .i64 x0.op)), (41, sk (!bb5) (.bool false)), (42, .bool false), (43, .bool false)] rfl hsz hdf (by intro p hp; simp only [List.mem_cons, List.not_mem_nil, or_false] at hp; rcases hp with rfl | rfl | rfl | rfl | rfl | rfl | rfl | rfl | rfl | rfl | rfl | rfl | rfl | rfl | rfl | rfl | rfl | rfl | rfl | rfl | rfl | rfl | rfl | rfl | rfl | rfl | rfl | rfl | rfl | rfl | rfl | rfl | rfl | rfl | rfl | rfl <;> first | exact e0 | exact e1 | exact e2 | exact e3 | exact e4 | exact e5 | exact e6 | exact e7 | exact e8 | exact e9 | exact e10 | exact e11 | exact e12 | exact e13 | exact e14 | exact e15 | exact e16 | exact e17 | exact e18 | exact e19 | exact e20 | exact e21 | exact e22 | exact e23 | exact e24 | exact e25 | exact e26 | exact e27 | exact e28 | exact e29 | exact e30 | exact e31 | exact e32 | exact e33 | exact e34 | exact e35) hrest
    clear h hrest hsz hdf e0 e1 e2 e3 e4 e5 e6 e7 e8 e9 e10 e11 e12 e13 e14 e15 e16 e17 e18 e19 e20 e21 e22 e23 e24 e25 e26 e27 e28 e29 e30 e31 e32 e33 e34 e35 g0 g1 g2 g3 g4 g5 g6 g7 g8 g9 g10 g11 g12 g13 g14 g15 g16 g17 g18 g19 g20 g21 g22 g23 g24 g25 g26 g27 g28 g29 g30 g31 g32 g33 g34 g35
    subst ha
    simp only [List.foldl_cons, List.foldl_nil, Act.put, List.setIfInBounds_toArray, List.set_cons_succ, List.set_cons_zero]
    obtain rfl : w = w9 := hE
    go_wp2
    clear c0 l5 hw
    go_loopg [46] N (fun gg iv wr => ∃ j : Nat, j ≤ N ∧ gg = N - j ∧ iv = .int .i64 (j : Nat) ∧ Hid ((c.take j).all (fun i => rightI i N g) = true) ∧ Ext w wr)
    case atStart => exact ⟨0, by omega, rfl, rfl, Lib.hid rfl, Ext.refl _⟩
    case round =>
      obtain ⟨j, hj, rfl, rfl, HT, hx⟩ := hrel
      by_cases hlt : j < N
      rotate_left
      · obtain rfl : j = N := by omega
        have hlt' : ¬ (j : Int) < (j : Int) := by omega
        have HX := Lib.hid hx
        obtain rfl : V = true := by
          rw [← HV.out]
          have := HT.out
          rwa [List.take_of_length_le (by rw [HN.out]; exact Nat.le_refl _)] at this
        clear hx hj hlt
        go_wp2
        go_ret
        exact ⟨rfl, HX.out⟩
      obtain ⟨xi, hxi⟩ : ∃ xi, c[j]? = some xi := ⟨_, List.getElem?_eq_getElem (by have := HN.out; omega)⟩
      obtain ⟨b8, o8, hA8, hb8, hrg⟩ := codeD_at (c := c) (by rw [HN.out]; exact HR.out.keep hx) hxi
      cases hA8
      have HRG := Lib.hid hrg
      have HX := Lib.hid hx
      have hlt' : (j : Int) < (N : Int) := by omega
      have hw2 : IntKind.i64.wrap ((j : Int) + 1) = (j : Int) + 1 := wrap_id (by omega) (by have := HM.out; omega)
      have HXI := Lib.hid hxi
      have HLT := Lib.hid hlt
      have HFAIL := Lib.hid (show rightI xi N g = false → V = false from fun h => by
        rw [← HV.out]
        refine Bool.eq_false_iff.2 fun e => ?_
        have := List.all_eq_true.1 e xi (List.mem_of_getElem? hxi)
        rw [h] at this
        cases this)
      have HPASS := Lib.hid (show rightI xi N g = true → (c.take (j + 1)).all (fun i => rightI i N g) = true from fun h => by
        rw [List.take_add_one, List.all_append, HT.out, hxi]; simp [h])
      clear hrg hxi hx hj hlt hb8 HT
      go_upto_region 6 with (first
        | (refine store_di_new rfl (.tmp 6) (.tmp 49) rfl (i := xi) rfl rfl di_zsize ?_)
        | (refine load_di rfl (.tmp 48) rfl (b := bA) (q := oA + j * 260) (i := xi) rfl HRG.out ?_))
      have hx1 := Ext.new1 wr (.cells (diC xi).toArray 47)
      have HIX := Lib.hid (show IB (wr.alloc (.cells (diC xi).toArray 47)) wr.heap.size xi from Blk.newL wr _ _)
      have HX1 := Lib.hid hx1
      obtain ⟨gx, hgx⟩ : ∃ gx, wr.heap.size = gx := ⟨_, rfl⟩
      have HGX := Lib.hid hgx
      rw [hgx] at HIX
      rw [hgx]
      clear hx1 hgx
      generalize wr.alloc (.cells (diC xi).toArray 47) = w1 at *
      go_upto_region 7 with (first
        | (refine store_di_new rfl (.tmp 7) (.tmp 50) rfl (i := xi) rfl rfl di_zsize ?_)
        | (refine load_di rfl (.tmp 6) rfl (b := gx) (q := 0) (i := xi) rfl (ib_range HIX.out) ?_))
      have hx1 := Ext.new1 w1 (.cells (diC xi).toArray 47)
      have HIY := Lib.hid (show IB (w1.alloc (.cells (diC xi).toArray 47)) w1.heap.size xi from Blk.newL w1 _ _)
      have HIX2 := Lib.hid (HIX.out.keep hx1)
      have HX2 := Lib.hid (Ext.trans HX1.out hx1)
      have HGY := Lib.hid (show w1.heap.size ≠ gx ∧ wr.heap.size ≤ w1.heap.size from ⟨by have := HIX.out.lt; omega, HX1.out.size⟩)
      clear hx1 HIX HX1
      generalize w1.alloc (.cells (diC xi).toArray 47) = w2 at *
      generalize w1.heap.size = gy at *
      have e0 : w2.cell? ⟨gx, 0, none⟩ = some (.int .i64 xi.op) := HIX2.out.op
      have f0 : w2.cell? ⟨gy, 0, none⟩ = some (.int .i64 xi.op) := HIY.out.op
      by_cases o1 : xi.op < 1
      · have o1' : (xi.op < 1) = True := by simp [o1]
        obtain rfl : V = false := HFAIL.out (by unfold rightI; rw [decide_eq_true o1]; rfl)
        clear HFAIL HPASS
        go_wp2
        go_ret
        exact ⟨rfl, Ext.trans HX.out HX2.out⟩
      by_cases o5 : 5 < xi.op
      · obtain rfl : V = false := HFAIL.out (by unfold rightI; rw [decide_eq_false o1, decide_eq_true o5]; rfl)
        clear HFAIL HPASS
        go_wp2
        go_ret
        exact ⟨rfl, Ext.trans HX.out HX2.out⟩
      have HCH := Lib.hid (rightI_chain xi N g o1 o5)
      have hop : xi.op = 1 ∨ xi.op = 2 ∨ xi.op = 3 ∨ xi.op = 4 ∨ xi.op = 5 := by omega
      clear o1 o5 e0 f0
      obtain ⟨op, X, Y, Z, p⟩ := xi
      dsimp only at hop HCH
      have HEQ := Lib.hid (fun w => di_neq ⟨op, X, Y, Z, p⟩ (bareI ⟨op, X, Y, Z, p⟩) w)
      have HEG := Lib.hid (fun w => di_guard .neq (.tmp 81) (.tmp 82) ⟨op, X, Y, Z, p⟩ (bareI ⟨op, X, Y, Z, p⟩) w)
      obtain ⟨b0, hb0⟩ : ∃ b, (!insEqB ⟨op, X, Y, Z, p⟩ (bareI ⟨op, X, Y, Z, p⟩)) = b := ⟨_, rfl⟩
      obtain ⟨b1, hb1⟩ : ∃ b, decide (X < 0) = b := ⟨_, rfl⟩
      obtain ⟨b2, hb2⟩ : ∃ b, decide ((N : Int) ≤ X) = b := ⟨_, rfl⟩
      obtain ⟨b3, hb3⟩ : ∃ b, decide (Y < 0) = b := ⟨_, rfl⟩
      obtain ⟨b4, hb4⟩ : ∃ b, decide ((N : Int) ≤ Y) = b := ⟨_, rfl⟩
      obtain ⟨b5, hb5⟩ : ∃ b, decide (Z < 2) = b := ⟨_, rfl⟩
      obtain ⟨b6, hb6⟩ : ∃ b, decide (2 * (g : Int) + 1 < Z) = b := ⟨_, rfl⟩
      rw [hb0] at HEQ HCH
      rw [hb1, hb2, hb3, hb4, hb5, hb6] at HCH
      obtain ⟨c1, hc1⟩ : ∃ c, (b0 || b1) = c := ⟨_, rfl⟩
      obtain ⟨c2, hc2⟩ : ∃ c, (c1 || b2) = c := ⟨_, rfl⟩
      obtain ⟨c3, hc3⟩ : ∃ c, (c2 || b3) = c := ⟨_, rfl⟩
      obtain ⟨c4, hc4⟩ : ∃ c, (c3 || b4) = c := ⟨_, rfl⟩
      obtain ⟨c5, hc5⟩ : ∃ c, (c4 || b5) = c := ⟨_, rfl⟩
      obtain ⟨c7, hc7⟩ : ∃ c, (b5 || b6) = c := ⟨_, rfl⟩
      obtain ⟨c8, hc8⟩ : ∃ c, (c4 || c7) = c := ⟨_, rfl⟩
      rw [hc1, hc2, hc3, hc4, hc7] at HCH
      have HQ1 := Lib.hid hb1
      have HQ2 := Lib.hid hb2
      have HQ3 := Lib.hid hb3
      have HQ4 := Lib.hid hb4
      have HQ5 := Lib.hid hb5
      have HQ6 := Lib.hid hb6
      have HC1 := Lib.hid hc1
      have HC2 := Lib.hid hc2
      have HC3 := Lib.hid hc3
      have HC4 := Lib.hid hc4
      have HC5 := Lib.hid hc5
      have HC7 := Lib.hid hc7
      have HC8 := Lib.hid hc8
      clear hb0 hb1 hb2 hb3 hb4 hb5 hb6 hc1 hc2 hc3 hc4 hc5 hc7 hc8
      rcases hop with rfl | rfl | rfl | rfl | rfl
      focus
        have HI0 := Lib.hid HIY.out
        have e0 : w2.cell? ⟨gx, 0, none⟩ = some (.int .i64 1) := (HIX2.out).op
        have f1 : w2.cell? ⟨gy, 1, none⟩ = some (.int .i64 X) := (HIY.out).x
        have ff : w2.frozen? ⟨gy, 1, none⟩ = false := Blk.frozen (HIY.out) _
        go_upto_region 13 with fail
        have HY1 := Lib.hid (show IB (w2.setCell ⟨gy, 1, none⟩ (.int .i64 0)) gy ⟨1, 0, Y, Z, p⟩ from IB.setF (HIY.out) (di_set1 _ 0))
        have hc1 : Chg [gy] w2 (w2.setCell ⟨gy, 1, none⟩ (.int .i64 0)) := (Chg.refl _ _).setCell (p := ⟨gy, 1, none⟩) (by simp) _
        have HX1x := Lib.hid (IB.chg1 (HIX2.out) hc1 (by have := HGY.out.1; simp; omega))
        have HXW1 := Lib.hid (show Ext wr (w2.setCell ⟨gy, 1, none⟩ (.int .i64 0)) from (Chg.trans (.of_ext HX2.out) hc1).ext (fun y hy => by simp at hy; subst hy; exact HGY.out.2))
        clear hc1 e0 f1 ff
        generalize w2.setCell ⟨gy, 1, none⟩ (.int .i64 0) = v1 at *
        have e0 : v1.cell? ⟨gx, 0, none⟩ = some (.int .i64 1) := (HX1x.out).op
        have f2 : v1.cell? ⟨gy, 2, none⟩ = some (.int .i64 Y) := (HY1.out).y
        have ff : v1.frozen? ⟨gy, 2, none⟩ = false := Blk.frozen (HY1.out) _
        go_upto_region 15 with fail
        have HY2 := Lib.hid (show IB (v1.setCell ⟨gy, 2, none⟩ (.int .i64 0)) gy ⟨1, 0, 0, Z, p⟩ from IB.setF (HY1.out) (di_set2 _ 0))
        have hc2 : Chg [gy] v1 (v1.setCell ⟨gy, 2, none⟩ (.int .i64 0)) := (Chg.refl _ _).setCell (p := ⟨gy, 2, none⟩) (by simp) _
        have HX2x := Lib.hid (IB.chg1 (HX1x.out) hc2 (by have := HGY.out.1; simp; omega))
        have HXW2 := Lib.hid (show Ext wr (v1.setCell ⟨gy, 2, none⟩ (.int .i64 0)) from (Chg.trans (.of_ext HXW1.out) hc2).ext (fun y hy => by simp at hy; subst hy; exact HGY.out.2))
        clear hc2 e0 f2 ff
        generalize v1.setCell ⟨gy, 2, none⟩ (.int .i64 0) = v2 at *
        have e0 : v2.cell? ⟨gx, 0, none⟩ = some (.int .i64 1) := (HX2x.out).op
        have f3 : v2.cell? ⟨gy, 3, none⟩ = some (.int .i64 Z) := (HY2.out).n
        have ff : v2.frozen? ⟨gy, 3, none⟩ = false := Blk.frozen (HY2.out) _
        go_upto_region 17 with fail
        have HY3 := Lib.hid (show IB (v2.setCell ⟨gy, 3, none⟩ (.int .i64 0)) gy ⟨1, 0, 0, 0, p⟩ from IB.setF (HY2.out) (di_set3 _ 0))
        have hc3 : Chg [gy] v2 (v2.setCell ⟨gy, 3, none⟩ (.int .i64 0)) := (Chg.refl _ _).setCell (p := ⟨gy, 3, none⟩) (by simp) _
        have HX3x := Lib.hid (IB.chg1 (HX2x.out) hc3 (by have := HGY.out.1; simp; omega))
        have HXW3 := Lib.hid (show Ext wr (v2.setCell ⟨gy, 3, none⟩ (.int .i64 0)) from (Chg.trans (.of_ext HXW2.out) hc3).ext (fun y hy => by simp at hy; subst hy; exact HGY.out.2))
        clear hc3 e0 f3 ff
        generalize v2.setCell ⟨gy, 3, none⟩ (.int .i64 0) = v3 at *
        have HEX := Lib.hid (Ext.trans HX.out HXW3.out)
        have e0 : v3.cell? ⟨gx, 0, none⟩ = some (.int .i64 1) := (HX3x.out).op
        have e1 : v3.cell? ⟨gx, 1, none⟩ = some (.int .i64 X) := (HX3x.out).x
        have e2 : v3.cell? ⟨gx, 2, none⟩ = some (.int .i64 Y) := (HX3x.out).y
        have e3 : v3.cell? ⟨gx, 3, none⟩ = some (.int .i64 Z) := (HX3x.out).n
        go_upto_region 17 with fail
        have hq := HEQ.out
        have hg9 := HEG.out
        rw [show bareI ⟨1, X, Y, Z, p⟩ = ⟨1, 0, 0, 0, p⟩ from rfl] at hq hg9
        have hl6 := run_loadAt_mid (P := Tryd.prog) v3 gx 0 47 (diC ⟨1, X, Y, Z, p⟩) _ (ib_range (HX3x.out)) Tryd.underlying47 rfl (by rw [di_len]; exact di_size)
        have hl7 := run_loadAt_mid (P := Tryd.prog) v3 gy 0 47 (diC ⟨1, 0, 0, 0, p⟩) _ (ib_range (HY3.out)) Tryd.underlying47 rfl (by rw [di_len]; exact di_size)
        generalize Value.agg (diC ⟨1, X, Y, Z, p⟩).toArray = VX at *
        generalize Value.agg (diC ⟨1, 0, 0, 0, p⟩).toArray = VY at *
        obtain ⟨o9, ho9⟩ : ∃ o9 : Int, (1 : Int) = o9 := ⟨_, rfl⟩
        have h49 : (o9 == 4) = false := by rw [← ho9]; rfl
        rw [ho9] at e0
        have HCELL := Lib.hid (And.intro e0 (And.intro e1 (And.intro e2 e3)))
        have HL67 := Lib.hid (And.intro hl6 hl7)
        have HNQ := Lib.hid hq
        have HNG := Lib.hid hg9
        obtain ⟨zz, hzz⟩ : ∃ zz, rightI ⟨1, X, Y, Z, p⟩ N g = zz := ⟨_, rfl⟩
        have HZ := Lib.hid (show zz = !c4 from by rw [← hzz, HCH.out, show ((1 : Int) == 4) = false from rfl, Bool.false_and, Bool.or_false])
        rw [hzz] at HFAIL HPASS
        clear HEQ HEG e0 e1 e2 e3 hl6 hl7 hq hg9 ho9 hzz HCH HXI HRG HIX2 HIY HX2 HGY HI0 HY1 HY2 HY3 HX1x HX2x HX3x HXW1 HXW2 HXW3
        generalize v3 = vZ at *
      rotate_left
      focus
        have HI0 := Lib.hid HIY.out
        have e0 : w2.cell? ⟨gx, 0, none⟩ = some (.int .i64 2) := (HIX2.out).op
        go_upto_region 11 with (refine wpList_store_mid rfl 45 (.tmp 63) (.tmp 62) rfl gy 4 (bcs (fun _ => false)) rfl (by rw [← zero28]; rfl) (by rw [bcs_size]; exact ib_there (HIY.out)) (by rw [bcs_size]; exact set_size) (bcs_one _) ?_)
        have HY1 := Lib.hid (show IB (w2.setCells gy 4 (bcs (fun _ => false)).toList) gy ⟨2, X, Y, Z, fun _ => false⟩ from IB.setS (HIY.out) (fun _ => false))
        have hc1 : Chg [gy] w2 (w2.setCells gy 4 (bcs (fun _ => false)).toList) := setCells_chg _ _ _
        have HX1x := Lib.hid (IB.chg1 (HIX2.out) hc1 (by have := HGY.out.1; simp; omega))
        have HXW1 := Lib.hid (show Ext wr (w2.setCells gy 4 (bcs (fun _ => false)).toList) from (Chg.trans (.of_ext HX2.out) hc1).ext (fun y hy => by simp at hy; subst hy; exact HGY.out.2))
        clear hc1 e0
        generalize w2.setCells gy 4 (bcs (fun _ => false)).toList = v1 at *
        have e0 : v1.cell? ⟨gx, 0, none⟩ = some (.int .i64 2) := (HX1x.out).op
        have f2 : v1.cell? ⟨gy, 2, none⟩ = some (.int .i64 Y) := (HY1.out).y
        have ff : v1.frozen? ⟨gy, 2, none⟩ = false := Blk.frozen (HY1.out) _
        go_upto_region 15 with fail
        have HY2 := Lib.hid (show IB (v1.setCell ⟨gy, 2, none⟩ (.int .i64 0)) gy ⟨2, X, 0, Z, fun _ => false⟩ from IB.setF (HY1.out) (di_set2 _ 0))
        have hc2 : Chg [gy] v1 (v1.setCell ⟨gy, 2, none⟩ (.int .i64 0)) := (Chg.refl _ _).setCell (p := ⟨gy, 2, none⟩) (by simp) _
        have HX2x := Lib.hid (IB.chg1 (HX1x.out) hc2 (by have := HGY.out.1; simp; omega))
        have HXW2 := Lib.hid (show Ext wr (v1.setCell ⟨gy, 2, none⟩ (.int .i64 0)) from (Chg.trans (.of_ext HXW1.out) hc2).ext (fun y hy => by simp at hy; subst hy; exact HGY.out.2))
        clear hc2 e0 f2 ff
        generalize v1.setCell ⟨gy, 2, none⟩ (.int .i64 0) = v2 at *
        have e0 : v2.cell? ⟨gx, 0, none⟩ = some (.int .i64 2) := (HX2x.out).op
        have f3 : v2.cell? ⟨gy, 3, none⟩ = some (.int .i64 Z) := (HY2.out).n
        have ff : v2.frozen? ⟨gy, 3, none⟩ = false := Blk.frozen (HY2.out) _
        go_upto_region 17 with fail
        have HY3 := Lib.hid (show IB (v2.setCell ⟨gy, 3, none⟩ (.int .i64 0)) gy ⟨2, X, 0, 0, fun _ => false⟩ from IB.setF (HY2.out) (di_set3 _ 0))
        have hc3 : Chg [gy] v2 (v2.setCell ⟨gy, 3, none⟩ (.int .i64 0)) := (Chg.refl _ _).setCell (p := ⟨gy, 3, none⟩) (by simp) _
        have HX3x := Lib.hid (IB.chg1 (HX2x.out) hc3 (by have := HGY.out.1; simp; omega))
        have HXW3 := Lib.hid (show Ext wr (v2.setCell ⟨gy, 3, none⟩ (.int .i64 0)) from (Chg.trans (.of_ext HXW2.out) hc3).ext (fun y hy => by simp at hy; subst hy; exact HGY.out.2))
        clear hc3 e0 f3 ff
        generalize v2.setCell ⟨gy, 3, none⟩ (.int .i64 0) = v3 at *
        have HEX := Lib.hid (Ext.trans HX.out HXW3.out)
        have e0 : v3.cell? ⟨gx, 0, none⟩ = some (.int .i64 2) := (HX3x.out).op
        have e1 : v3.cell? ⟨gx, 1, none⟩ = some (.int .i64 X) := (HX3x.out).x
        have e2 : v3.cell? ⟨gx, 2, none⟩ = some (.int .i64 Y) := (HX3x.out).y
        have e3 : v3.cell? ⟨gx, 3, none⟩ = some (.int .i64 Z) := (HX3x.out).n
        go_upto_region 17 with fail
        have hq := HEQ.out
        have hg9 := HEG.out
        rw [show bareI ⟨2, X, Y, Z, p⟩ = ⟨2, X, 0, 0, fun _ => false⟩ from rfl] at hq hg9
        have hl6 := run_loadAt_mid (P := Tryd.prog) v3 gx 0 47 (diC ⟨2, X, Y, Z, p⟩) _ (ib_range (HX3x.out)) Tryd.underlying47 rfl (by rw [di_len]; exact di_size)
        have hl7 := run_loadAt_mid (P := Tryd.prog) v3 gy 0 47 (diC ⟨2, X, 0, 0, fun _ => false⟩) _ (ib_range (HY3.out)) Tryd.underlying47 rfl (by rw [di_len]; exact di_size)
        generalize Value.agg (diC ⟨2, X, Y, Z, p⟩).toArray = VX at *
        generalize Value.agg (diC ⟨2, X, 0, 0, fun _ => false⟩).toArray = VY at *
        obtain ⟨o9, ho9⟩ : ∃ o9 : Int, (2 : Int) = o9 := ⟨_, rfl⟩
        have h49 : (o9 == 4) = false := by rw [← ho9]; rfl
        rw [ho9] at e0
        have HCELL := Lib.hid (And.intro e0 (And.intro e1 (And.intro e2 e3)))
        have HL67 := Lib.hid (And.intro hl6 hl7)
        have HNQ := Lib.hid hq
        have HNG := Lib.hid hg9
        obtain ⟨zz, hzz⟩ : ∃ zz, rightI ⟨2, X, Y, Z, p⟩ N g = zz := ⟨_, rfl⟩
        have HZ := Lib.hid (show zz = !c4 from by rw [← hzz, HCH.out, show ((2 : Int) == 4) = false from rfl, Bool.false_and, Bool.or_false])
        rw [hzz] at HFAIL HPASS
        clear HEQ HEG e0 e1 e2 e3 hl6 hl7 hq hg9 ho9 hzz HCH HXI HRG HIX2 HIY HX2 HGY HI0 HY1 HY2 HY3 HX1x HX2x HX3x HXW1 HXW2 HXW3
        generalize v3 = vZ at *
      rotate_left
      focus
        have HI0 := Lib.hid HIY.out
        have e0 : w2.cell? ⟨gx, 0, none⟩ = some (.int .i64 3) := (HIX2.out).op
        go_upto_region 11 with (refine wpList_store_mid rfl 45 (.tmp 63) (.tmp 62) rfl gy 4 (bcs (fun _ => false)) rfl (by rw [← zero28]; rfl) (by rw [bcs_size]; exact ib_there (HIY.out)) (by rw [bcs_size]; exact set_size) (bcs_one _) ?_)
        have HY1 := Lib.hid (show IB (w2.setCells gy 4 (bcs (fun _ => false)).toList) gy ⟨3, X, Y, Z, fun _ => false⟩ from IB.setS (HIY.out) (fun _ => false))
        have hc1 : Chg [gy] w2 (w2.setCells gy 4 (bcs (fun _ => false)).toList) := setCells_chg _ _ _
        have HX1x := Lib.hid (IB.chg1 (HIX2.out) hc1 (by have := HGY.out.1; simp; omega))
        have HXW1 := Lib.hid (show Ext wr (w2.setCells gy 4 (bcs (fun _ => false)).toList) from (Chg.trans (.of_ext HX2.out) hc1).ext (fun y hy => by simp at hy; subst hy; exact HGY.out.2))
        clear hc1 e0
        generalize w2.setCells gy 4 (bcs (fun _ => false)).toList = v1 at *
        have e0 : v1.cell? ⟨gx, 0, none⟩ = some (.int .i64 3) := (HX1x.out).op
        have f3 : v1.cell? ⟨gy, 3, none⟩ = some (.int .i64 Z) := (HY1.out).n
        have ff : v1.frozen? ⟨gy, 3, none⟩ = false := Blk.frozen (HY1.out) _
        go_upto_region 17 with fail
        have HY2 := Lib.hid (show IB (v1.setCell ⟨gy, 3, none⟩ (.int .i64 0)) gy ⟨3, X, Y, 0, fun _ => false⟩ from IB.setF (HY1.out) (di_set3 _ 0))
        have hc2 : Chg [gy] v1 (v1.setCell ⟨gy, 3, none⟩ (.int .i64 0)) := (Chg.refl _ _).setCell (p := ⟨gy, 3, none⟩) (by simp) _
        have HX2x := Lib.hid (IB.chg1 (HX1x.out) hc2 (by have := HGY.out.1; simp; omega))
        have HXW2 := Lib.hid (show Ext wr (v1.setCell ⟨gy, 3, none⟩ (.int .i64 0)) from (Chg.trans (.of_ext HXW1.out) hc2).ext (fun y hy => by simp at hy; subst hy; exact HGY.out.2))
        clear hc2 e0 f3 ff
        generalize v1.setCell ⟨gy, 3, none⟩ (.int .i64 0) = v2 at *
        have HEX := Lib.hid (Ext.trans HX.out HXW2.out)
        have e0 : v2.cell? ⟨gx, 0, none⟩ = some (.int .i64 3) := (HX2x.out).op
        have e1 : v2.cell? ⟨gx, 1, none⟩ = some (.int .i64 X) := (HX2x.out).x
        have e2 : v2.cell? ⟨gx, 2, none⟩ = some (.int .i64 Y) := (HX2x.out).y
        have e3 : v2.cell? ⟨gx, 3, none⟩ = some (.int .i64 Z) := (HX2x.out).n
        go_upto_region 17 with fail
        have hq := HEQ.out
        have hg9 := HEG.out
        rw [show bareI ⟨3, X, Y, Z, p⟩ = ⟨3, X, Y, 0, fun _ => false⟩ from rfl] at hq hg9
        have hl6 := run_loadAt_mid (P := Tryd.prog) v2 gx 0 47 (diC ⟨3, X, Y, Z, p⟩) _ (ib_range (HX2x.out)) Tryd.underlying47 rfl (by rw [di_len]; exact di_size)
        have hl7 := run_loadAt_mid (P := Tryd.prog) v2 gy 0 47 (diC ⟨3, X, Y, 0, fun _ => false⟩) _ (ib_range (HY2.out)) Tryd.underlying47 rfl (by rw [di_len]; exact di_size)
        generalize Value.agg (diC ⟨3, X, Y, Z, p⟩).toArray = VX at *
        generalize Value.agg (diC ⟨3, X, Y, 0, fun _ => false⟩).toArray = VY at *
        obtain ⟨o9, ho9⟩ : ∃ o9 : Int, (3 : Int) = o9 := ⟨_, rfl⟩
        have h49 : (o9 == 4) = false := by rw [← ho9]; rfl
        rw [ho9] at e0
        have HCELL := Lib.hid (And.intro e0 (And.intro e1 (And.intro e2 e3)))
        have HL67 := Lib.hid (And.intro hl6 hl7)
        have HNQ := Lib.hid hq
        have HNG := Lib.hid hg9
        obtain ⟨zz, hzz⟩ : ∃ zz, rightI ⟨3, X, Y, Z, p⟩ N g = zz := ⟨_, rfl⟩
        have HZ := Lib.hid (show zz = !c4 from by rw [← hzz, HCH.out, show ((3 : Int) == 4) = false from rfl, Bool.false_and, Bool.or_false])
        rw [hzz] at HFAIL HPASS
        clear HEQ HEG e0 e1 e2 e3 hl6 hl7 hq hg9 ho9 hzz HCH HXI HRG HIX2 HIY HX2 HGY HI0 HY1 HY2 HX1x HX2x HXW1 HXW2
        generalize v2 = vZ at *
      rotate_left
      focus
        have HI0 := Lib.hid HIY.out
        have e0 : w2.cell? ⟨gx, 0, none⟩ = some (.int .i64 4) := (HIX2.out).op
        go_upto_region 11 with (refine wpList_store_mid rfl 45 (.tmp 63) (.tmp 62) rfl gy 4 (bcs (fun _ => false)) rfl (by rw [← zero28]; rfl) (by rw [bcs_size]; exact ib_there (HIY.out)) (by rw [bcs_size]; exact set_size) (bcs_one _) ?_)
        have HY1 := Lib.hid (show IB (w2.setCells gy 4 (bcs (fun _ => false)).toList) gy ⟨4, X, Y, Z, fun _ => false⟩ from IB.setS (HIY.out) (fun _ => false))
        have hc1 : Chg [gy] w2 (w2.setCells gy 4 (bcs (fun _ => false)).toList) := setCells_chg _ _ _
        have HX1x := Lib.hid (IB.chg1 (HIX2.out) hc1 (by have := HGY.out.1; simp; omega))
        have HXW1 := Lib.hid (show Ext wr (w2.setCells gy 4 (bcs (fun _ => false)).toList) from (Chg.trans (.of_ext HX2.out) hc1).ext (fun y hy => by simp at hy; subst hy; exact HGY.out.2))
        clear hc1 e0
        generalize w2.setCells gy 4 (bcs (fun _ => false)).toList = v1 at *
        have e0 : v1.cell? ⟨gx, 0, none⟩ = some (.int .i64 4) := (HX1x.out).op
        have f1 : v1.cell? ⟨gy, 1, none⟩ = some (.int .i64 X) := (HY1.out).x
        have ff : v1.frozen? ⟨gy, 1, none⟩ = false := Blk.frozen (HY1.out) _
        go_upto_region 13 with fail
        have HY2 := Lib.hid (show IB (v1.setCell ⟨gy, 1, none⟩ (.int .i64 0)) gy ⟨4, 0, Y, Z, fun _ => false⟩ from IB.setF (HY1.out) (di_set1 _ 0))
        have hc2 : Chg [gy] v1 (v1.setCell ⟨gy, 1, none⟩ (.int .i64 0)) := (Chg.refl _ _).setCell (p := ⟨gy, 1, none⟩) (by simp) _
        have HX2x := Lib.hid (IB.chg1 (HX1x.out) hc2 (by have := HGY.out.1; simp; omega))
        have HXW2 := Lib.hid (show Ext wr (v1.setCell ⟨gy, 1, none⟩ (.int .i64 0)) from (Chg.trans (.of_ext HXW1.out) hc2).ext (fun y hy => by simp at hy; subst hy; exact HGY.out.2))
        clear hc2 e0 f1 ff
        generalize v1.setCell ⟨gy, 1, none⟩ (.int .i64 0) = v2 at *
        have e0 : v2.cell? ⟨gx, 0, none⟩ = some (.int .i64 4) := (HX2x.out).op
        have f2 : v2.cell? ⟨gy, 2, none⟩ = some (.int .i64 Y) := (HY2.out).y
        have ff : v2.frozen? ⟨gy, 2, none⟩ = false := Blk.frozen (HY2.out) _
        go_upto_region 15 with fail
        have HY3 := Lib.hid (show IB (v2.setCell ⟨gy, 2, none⟩ (.int .i64 0)) gy ⟨4, 0, 0, Z, fun _ => false⟩ from IB.setF (HY2.out) (di_set2 _ 0))
        have hc3 : Chg [gy] v2 (v2.setCell ⟨gy, 2, none⟩ (.int .i64 0)) := (Chg.refl _ _).setCell (p := ⟨gy, 2, none⟩) (by simp) _
        have HX3x := Lib.hid (IB.chg1 (HX2x.out) hc3 (by have := HGY.out.1; simp; omega))
        have HXW3 := Lib.hid (show Ext wr (v2.setCell ⟨gy, 2, none⟩ (.int .i64 0)) from (Chg.trans (.of_ext HXW2.out) hc3).ext (fun y hy => by simp at hy; subst hy; exact HGY.out.2))
        clear hc3 e0 f2 ff
        generalize v2.setCell ⟨gy, 2, none⟩ (.int .i64 0) = v3 at *
        have HEX := Lib.hid (Ext.trans HX.out HXW3.out)
        have e0 : v3.cell? ⟨gx, 0, none⟩ = some (.int .i64 4) := (HX3x.out).op
        have e1 : v3.cell? ⟨gx, 1, none⟩ = some (.int .i64 X) := (HX3x.out).x
        have e2 : v3.cell? ⟨gx, 2, none⟩ = some (.int .i64 Y) := (HX3x.out).y
        have e3 : v3.cell? ⟨gx, 3, none⟩ = some (.int .i64 Z) := (HX3x.out).n
        go_upto_region 17 with fail
        have hq := HEQ.out
        have hg9 := HEG.out
        rw [show bareI ⟨4, X, Y, Z, p⟩ = ⟨4, 0, 0, Z, fun _ => false⟩ from rfl] at hq hg9
        have hl6 := run_loadAt_mid (P := Tryd.prog) v3 gx 0 47 (diC ⟨4, X, Y, Z, p⟩) _ (ib_range (HX3x.out)) Tryd.underlying47 rfl (by rw [di_len]; exact di_size)
        have hl7 := run_loadAt_mid (P := Tryd.prog) v3 gy 0 47 (diC ⟨4, 0, 0, Z, fun _ => false⟩) _ (ib_range (HY3.out)) Tryd.underlying47 rfl (by rw [di_len]; exact di_size)
        generalize Value.agg (diC ⟨4, X, Y, Z, p⟩).toArray = VX at *
        generalize Value.agg (diC ⟨4, 0, 0, Z, fun _ => false⟩).toArray = VY at *
        obtain ⟨o9, ho9⟩ : ∃ o9 : Int, (4 : Int) = o9 := ⟨_, rfl⟩
        have h49 : (o9 == 4) = true := by rw [← ho9]; rfl
        rw [ho9] at e0
        have HCELL := Lib.hid (And.intro e0 (And.intro e1 (And.intro e2 e3)))
        have HL67 := Lib.hid (And.intro hl6 hl7)
        have HNQ := Lib.hid hq
        have HNG := Lib.hid hg9
        obtain ⟨zz, hzz⟩ : ∃ zz, rightI ⟨4, X, Y, Z, p⟩ N g = zz := ⟨_, rfl⟩
        have HZ := Lib.hid (show zz = !c8 from by rw [← hzz, HCH.out, ← HC8.out]; rfl)
        rw [hzz] at HFAIL HPASS
        clear HEQ HEG e0 e1 e2 e3 hl6 hl7 hq hg9 ho9 hzz HCH HXI HRG HIX2 HIY HX2 HGY HI0 HY1 HY2 HY3 HX1x HX2x HX3x HXW1 HXW2 HXW3
        generalize v3 = vZ at *
        refine wp_region_dag0 (E := fun a b : World => a = b) (w0 := vZ) (Φ := fun i v w => match i with | 0 => (v = VX) | 1 => (v = VY) | 2 => (v = .bool b0) | 3 => (v = .bool b0) | 4 => (v = sk b0 (.pointer (some ⟨gx, 1, none⟩))) | 5 => (v = sk b0 (.int .i64 X)) | 6 => (v = sk b0 (.bool b1)) | 7 => (v = .bool c1) | 8 => (v = .bool c1) | 9 => (v = sk c1 (.pointer (some ⟨gx, 1, none⟩))) | 10 => (v = sk c1 (.int .i64 X)) | 11 => (v = sk c1 (.slice (some ⟨bA, oA, none⟩) N cc)) | 12 => (v = sk c1 (.int .i64 (N : Nat))) | 13 => (v = sk c1 (.bool b2)) | 14 => (v = .bool c2) | 15 => (v = .bool c2) | 16 => (v = sk c2 (.pointer (some ⟨gx, 2, none⟩))) | 17 => (v = sk c2 (.int .i64 Y)) | 18 => (v = sk c2 (.bool b3)) | 19 => (v = .bool c3) | 20 => (v = .bool c3) | 21 => (v = sk c3 (.pointer (some ⟨gx, 2, none⟩))) | 22 => (v = sk c3 (.int .i64 Y)) | 23 => (v = sk c3 (.slice (some ⟨bA, oA, none⟩) N cc)) | 24 => (v = sk c3 (.int .i64 (N : Nat))) | 25 => (v = sk c3 (.bool b4)) | 26 => (v = .bool c4) | 27 => (v = .bool c4) | 28 => (v = sk c4 (.pointer (some ⟨gx, 0, none⟩))) | 29 => (v = sk c4 (.int .i64 o9)) | 30 => (v = sk c4 (.bool true)) | 31 => (v = sk c4 (.bool true)) | 32 => (v = sk c4 (.pointer (some ⟨gx, 3, none⟩))) | 33 => (v = sk c4 (.int .i64 Z)) | 34 => (v = sk c4 (.bool b5)) | 35 => (v = sk c4 (.bool b5)) | 36 => (v = sk c4 (sk b5 (.pointer (some ⟨gx, 3, none⟩)))) | 37 => (v = sk c4 (sk b5 (.int .i64 Z))) | 38 => (v = sk c4 (sk b5 (.int .i64 (g : Nat)))) | 39 => (v = sk c4 (sk b5 (.int .i64 (2 * (g : Int))))) | 40 => (v = sk c4 (sk b5 (.int .i64 (2 * (g : Int) + 1)))) | 41 => (v = sk c4 (sk b5 (.bool b6))) | 42 => (v = sk c4 (.bool c7)) | 43 => (v = sk c4 (.bool c7)) | 44 => (v = .bool c8) | _ => True) 127 rfl (by decide +kernel) ?_ rfl ?_ ⟨?_, ?_, ?_, ?_, ?_, ?_, ?_, ?_, ?_, ?_, ?_, ?_, ?_, ?_, ?_, ?_, ?_, ?_, ?_, ?_, ?_, ?_, ?_, ?_, ?_, ?_, ?_, ?_, ?_, ?_, ?_, ?_, ?_, ?_, ?_, ?_, ?_, ?_, ?_, ?_, ?_, ?_, ?_, ?_, ?_, trivial⟩ ?_
        · intro i v w w' h hE
          match i, h with
          | 0, h => exact h
          | 1, h => exact h
          | 2, h => exact h
          | 3, h => exact h
          | 4, h => exact h
          | 5, h => exact h
          | 6, h => exact h
          | 7, h => exact h
          | 8, h => exact h
          | 9, h => exact h
          | 10, h => exact h
          | 11, h => exact h
          | 12, h => exact h
          | 13, h => exact h
          | 14, h => exact h
          | 15, h => exact h
          | 16, h => exact h
          | 17, h => exact h
          | 18, h => exact h
          | 19, h => exact h
          | 20, h => exact h
          | 21, h => exact h
          | 22, h => exact h
          | 23, h => exact h
          | 24, h => exact h
          | 25, h => exact h
          | 26, h => exact h
          | 27, h => exact h
          | 28, h => exact h
          | 29, h => exact h
          | 30, h => exact h
          | 31, h => exact h
          | 32, h => exact h
          | 33, h => exact h
          | 34, h => exact h
          | 35, h => exact h
          | 36, h => exact h
          | 37, h => exact h
          | 38, h => exact h
          | 39, h => exact h
          | 40, h => exact h
          | 41, h => exact h
          | 42, h => exact h
          | 43, h => exact h
          | 44, h => exact h
          | _ + 45, _ => trivial
        · exact fun w w' h h' => h.trans h'
        · intro ac wx hE hsz hdf h
          obtain rfl : vZ = wx := hE
          have e6 : ac.tmps[6]? = some (.pointer (some ⟨gx, 0, none⟩)) := el0 (h 6 (by decide +kernel)) rfl
          clear h hsz hdf
          go_wp2_with (refine wpList_load_val rfl 47 (.tmp 6) rfl ⟨gx, 0, none⟩ (by simp [Act.eval, e6]) VX HL67.out.1 ?_)
          all_goals first | exact ⟨_, rfl, rfl, (by first | rfl | trivial)⟩ | rfl
        · intro ac wx hE hsz hdf h
          obtain rfl : vZ = wx := hE
          have e7 : ac.tmps[7]? = some (.pointer (some ⟨gy, 0, none⟩)) := el0 (h 7 (by decide +kernel)) rfl
          clear h hsz hdf
          go_wp2_with (refine wpList_load_val rfl 47 (.tmp 7) rfl ⟨gy, 0, none⟩ (by simp [Act.eval, e7]) VY HL67.out.2 ?_)
          all_goals first | exact ⟨_, rfl, rfl, (by first | rfl | trivial)⟩ | rfl
        · intro ac wx hE hsz hdf h
          obtain rfl : vZ = wx := hE
          have e81 : ac.tmps[81]? = some (VX) := el (h 81 (by decide +kernel))
          have e82 : ac.tmps[82]? = some (VY) := el (h 82 (by decide +kernel))
          clear h hsz hdf
          have hq := HNQ.out
          have hg9 := HNG.out
          go_wp2
          all_goals first | exact ⟨_, rfl, rfl, (by first | rfl | trivial)⟩ | rfl
        · intro ac wx hE hsz hdf h
          obtain rfl : vZ = wx := hE
          have e83 : ac.tmps[83]? = some (.bool b0) := el (h 83 (by decide +kernel))
          clear h hsz hdf
          go_wp2
          all_goals first | exact ⟨_, rfl, rfl, (by first | rfl | trivial)⟩ | rfl
        · intro ac wx hE hsz hdf h
          obtain rfl : vZ = wx := hE
          cases b0
          · have e6 : ac.tmps[6]? = some (.pointer (some ⟨gx, 0, none⟩)) := el0 (h 6 (by decide +kernel)) rfl
            have e84 : ac.tmps[84]? = some (.bool false) := el (h 84 (by decide +kernel))
            clear h hsz hdf
            go_wp2
            all_goals first | exact ⟨_, rfl, rfl, (by first | rfl | trivial)⟩ | rfl
          · have e6 : ac.tmps[6]? = some (.pointer (some ⟨gx, 0, none⟩)) := el0 (h 6 (by decide +kernel)) rfl
            have e84 : ac.tmps[84]? = some (.bool true) := el (h 84 (by decide +kernel))
            clear h hsz hdf
            go_wp2
            all_goals first | exact ⟨_, rfl, rfl, (by first | rfl | trivial)⟩ | rfl
        · intro ac wx hE hsz hdf h
          obtain rfl : vZ = wx := hE
          cases b0
          · have e85 : ac.tmps[85]? = some (.pointer (some ⟨gx, 1, none⟩)) := el (h 85 (by decide +kernel))
            have e84 : ac.tmps[84]? = some (.bool false) := el (h 84 (by decide +kernel))
            clear h hsz hdf
            obtain ⟨y0, y1, y2, y3⟩ := HCELL.out
            go_wp2
            all_goals first | exact ⟨_, rfl, rfl, (by first | rfl | trivial)⟩ | rfl
          · have e85 : ac.tmps[85]? = some (undef) := el (h 85 (by decide +kernel))
            have e84 : ac.tmps[84]? = some (.bool true) := el (h 84 (by decide +kernel))
            clear h hsz hdf
            go_wp2
            all_goals first | exact ⟨_, rfl, rfl, (by first | rfl | trivial)⟩ | rfl
        · intro ac wx hE hsz hdf h
          obtain rfl : vZ = wx := hE
          cases b0
          · have e86 : ac.tmps[86]? = some (.int .i64 X) := el (h 86 (by decide +kernel))
            have e84 : ac.tmps[84]? = some (.bool false) := el (h 84 (by decide +kernel))
            clear h hsz hdf
            go_wp2
            all_goals first | exact ⟨_, rfl, (by rw [← HQ1.out]; rfl), (by first | rfl | trivial)⟩ | (rw [← HQ1.out]; first | done | rfl)
          · have e86 : ac.tmps[86]? = some (undef) := el (h 86 (by decide +kernel))
            have e84 : ac.tmps[84]? = some (.bool true) := el (h 84 (by decide +kernel))
            clear h hsz hdf
            go_wp2
            all_goals first | exact ⟨_, rfl, rfl, (by first | rfl | trivial)⟩ | rfl
        · intro ac wx hE hsz hdf h
          obtain rfl : vZ = wx := hE
          cases b0
          · have e84 : ac.tmps[84]? = some (.bool false) := el (h 84 (by decide +kernel))
            have e87 : ac.tmps[87]? = some (.bool b1) := el (h 87 (by decide +kernel))
            clear h hsz hdf
            go_wp2
            all_goals first | exact ⟨_, rfl, (by rw [← HC1.out]; rfl), (by first | rfl | trivial)⟩ | (rw [← HC1.out]; first | done | rfl)
          · have e84 : ac.tmps[84]? = some (.bool true) := el (h 84 (by decide +kernel))
            have e87 : ac.tmps[87]? = some (undef) := el (h 87 (by decide +kernel))
            clear h hsz hdf
            go_wp2
            all_goals first | exact ⟨_, rfl, (by rw [← HC1.out]; rfl), (by first | rfl | trivial)⟩ | (rw [← HC1.out]; first | done | rfl)
        · intro ac wx hE hsz hdf h
          obtain rfl : vZ = wx := hE
          have e88 : ac.tmps[88]? = some (.bool c1) := el (h 88 (by decide +kernel))
          clear h hsz hdf
          go_wp2
          all_goals first | exact ⟨_, rfl, rfl, (by first | rfl | trivial)⟩ | rfl
        · intro ac wx hE hsz hdf h
          obtain rfl : vZ = wx := hE
          cases c1
          · have e6 : ac.tmps[6]? = some (.pointer (some ⟨gx, 0, none⟩)) := el0 (h 6 (by decide +kernel)) rfl
            have e89 : ac.tmps[89]? = some (.bool false) := el (h 89 (by decide +kernel))
            clear h hsz hdf
            go_wp2
            all_goals first | exact ⟨_, rfl, rfl, (by first | rfl | trivial)⟩ | rfl
          · have e6 : ac.tmps[6]? = some (.pointer (some ⟨gx, 0, none⟩)) := el0 (h 6 (by decide +kernel)) rfl
            have e89 : ac.tmps[89]? = some (.bool true) := el (h 89 (by decide +kernel))
            clear h hsz hdf
            go_wp2
            all_goals first | exact ⟨_, rfl, rfl, (by first | rfl | trivial)⟩ | rfl
        · intro ac wx hE hsz hdf h
          obtain rfl : vZ = wx := hE
          cases c1
          · have e90 : ac.tmps[90]? = some (.pointer (some ⟨gx, 1, none⟩)) := el (h 90 (by decide +kernel))
            have e89 : ac.tmps[89]? = some (.bool false) := el (h 89 (by decide +kernel))
            clear h hsz hdf
            obtain ⟨y0, y1, y2, y3⟩ := HCELL.out
            go_wp2
            all_goals first | exact ⟨_, rfl, rfl, (by first | rfl | trivial)⟩ | rfl
          · have e90 : ac.tmps[90]? = some (undef) := el (h 90 (by decide +kernel))
            have e89 : ac.tmps[89]? = some (.bool true) := el (h 89 (by decide +kernel))
            clear h hsz hdf
            go_wp2
            all_goals first | exact ⟨_, rfl, rfl, (by first | rfl | trivial)⟩ | rfl
        · intro ac wx hE hsz hdf h
          obtain rfl : vZ = wx := hE
          cases c1
          · have e0 : ac.tmps[0]? = some (.slice (some ⟨bA, oA, none⟩) N cc) := el0 (h 0 (by decide +kernel)) rfl
            have e89 : ac.tmps[89]? = some (.bool false) := el (h 89 (by decide +kernel))
            clear h hsz hdf
            go_wp2
            all_goals first | exact ⟨_, rfl, rfl, (by first | rfl | trivial)⟩ | rfl
          · have e0 : ac.tmps[0]? = some (.slice (some ⟨bA, oA, none⟩) N cc) := el0 (h 0 (by decide +kernel)) rfl
            have e89 : ac.tmps[89]? = some (.bool true) := el (h 89 (by decide +kernel))
            clear h hsz hdf
            go_wp2
            all_goals first | exact ⟨_, rfl, rfl, (by first | rfl | trivial)⟩ | rfl
        · intro ac wx hE hsz hdf h
          obtain rfl : vZ = wx := hE
          cases c1
          · have e92 : ac.tmps[92]? = some (.slice (some ⟨bA, oA, none⟩) N cc) := el (h 92 (by decide +kernel))
            have e89 : ac.tmps[89]? = some (.bool false) := el (h 89 (by decide +kernel))
            clear h hsz hdf
            go_wp2
            all_goals first | exact ⟨_, rfl, rfl, (by first | rfl | trivial)⟩ | rfl
          · have e92 : ac.tmps[92]? = some (undef) := el (h 92 (by decide +kernel))
            have e89 : ac.tmps[89]? = some (.bool true) := el (h 89 (by decide +kernel))
            clear h hsz hdf
            go_wp2
            all_goals first | exact ⟨_, rfl, rfl, (by first | rfl | trivial)⟩ | rfl
        · intro ac wx hE hsz hdf h
          obtain rfl : vZ = wx := hE
          cases c1
          · have e91 : ac.tmps[91]? = some (.int .i64 X) := el (h 91 (by decide +kernel))
            have e93 : ac.tmps[93]? = some (.int .i64 (N : Nat)) := el (h 93 (by decide +kernel))
            have e89 : ac.tmps[89]? = some (.bool false) := el (h 89 (by decide +kernel))
            clear h hsz hdf
            go_wp2
            all_goals first | exact ⟨_, rfl, (by rw [← HQ2.out]; rfl), (by first | rfl | trivial)⟩ | (rw [← HQ2.out]; first | done | rfl)
          · have e91 : ac.tmps[91]? = some (undef) := el (h 91 (by decide +kernel))
            have e93 : ac.tmps[93]? = some (undef) := el (h 93 (by decide +kernel))
            have e89 : ac.tmps[89]? = some (.bool true) := el (h 89 (by decide +kernel))
            clear h hsz hdf
            go_wp2
            all_goals first | exact ⟨_, rfl, rfl, (by first | rfl | trivial)⟩ | rfl
        · intro ac wx hE hsz hdf h
          obtain rfl : vZ = wx := hE
          cases c1
          · have e89 : ac.tmps[89]? = some (.bool false) := el (h 89 (by decide +kernel))
            have e94 : ac.tmps[94]? = some (.bool b2) := el (h 94 (by decide +kernel))
            clear h hsz hdf
            go_wp2
            all_goals first | exact ⟨_, rfl, (by rw [← HC2.out]; rfl), (by first | rfl | trivial)⟩ | (rw [← HC2.out]; first | done | rfl)
          · have e89 : ac.tmps[89]? = some (.bool true) := el (h 89 (by decide +kernel))
            have e94 : ac.tmps[94]? = some (undef) := el (h 94 (by decide +kernel))
            clear h hsz hdf
            go_wp2
            all_goals first | exact ⟨_, rfl, (by rw [← HC2.out]; rfl), (by first | rfl | trivial)⟩ | (rw [← HC2.out]; first | done | rfl)
        · intro ac wx hE hsz hdf h
          obtain rfl : vZ = wx := hE
          have e95 : ac.tmps[95]? = some (.bool c2) := el (h 95 (by decide +kernel))
          clear h hsz hdf
          go_wp2
          all_goals first | exact ⟨_, rfl, rfl, (by first | rfl | trivial)⟩ | rfl
        · intro ac wx hE hsz hdf h
          obtain rfl : vZ = wx := hE
          cases c2
          · have e6 : ac.tmps[6]? = some (.pointer (some ⟨gx, 0, none⟩)) := el0 (h 6 (by decide +kernel)) rfl
            have e96 : ac.tmps[96]? = some (.bool false) := el (h 96 (by decide +kernel))
            clear h hsz hdf
            go_wp2
            all_goals first | exact ⟨_, rfl, rfl, (by first | rfl | trivial)⟩ | rfl
          · have e6 : ac.tmps[6]? = some (.pointer (some ⟨gx, 0, none⟩)) := el0 (h 6 (by decide +kernel)) rfl
            have e96 : ac.tmps[96]? = some (.bool true) := el (h 96 (by decide +kernel))
            clear h hsz hdf
            go_wp2
            all_goals first | exact ⟨_, rfl, rfl, (by first | rfl | trivial)⟩ | rfl
        · intro ac wx hE hsz hdf h
          obtain rfl : vZ = wx := hE
          cases c2
          · have e97 : ac.tmps[97]? = some (.pointer (some ⟨gx, 2, none⟩)) := el (h 97 (by decide +kernel))
            have e96 : ac.tmps[96]? = some (.bool false) := el (h 96 (by decide +kernel))
            clear h hsz hdf
            obtain ⟨y0, y1, y2, y3⟩ := HCELL.out
            go_wp2
            all_goals first | exact ⟨_, rfl, rfl, (by first | rfl | trivial)⟩ | rfl
          · have e97 : ac.tmps[97]? = some (undef) := el (h 97 (by decide +kernel))
            have e96 : ac.tmps[96]? = some (.bool true) := el (h 96 (by decide +kernel))
            clear h hsz hdf
            go_wp2
            all_goals first | exact ⟨_, rfl, rfl, (by first | rfl | trivial)⟩ | rfl
        · intro ac wx hE hsz hdf h
          obtain rfl : vZ = wx := hE
          cases c2
          · have e98 : ac.tmps[98]? = some (.int .i64 Y) := el (h 98 (by decide +kernel))
            have e96 : ac.tmps[96]? = some (.bool false) := el (h 96 (by decide +kernel))
            clear h hsz hdf
            go_wp2
            all_goals first | exact ⟨_, rfl, (by rw [← HQ3.out]; rfl), (by first | rfl | trivial)⟩ | (rw [← HQ3.out]; first | done | rfl)
          · have e98 : ac.tmps[98]? = some (undef) := el (h 98 (by decide +kernel))
            have e96 : ac.tmps[96]? = some (.bool true) := el (h 96 (by decide +kernel))
            clear h hsz hdf
            go_wp2
            all_goals first | exact ⟨_, rfl, rfl, (by first | rfl | trivial)⟩ | rfl
        · intro ac wx hE hsz hdf h
          obtain rfl : vZ = wx := hE
          cases c2
          · have e96 : ac.tmps[96]? = some (.bool false) := el (h 96 (by decide +kernel))
            have e99 : ac.tmps[99]? = some (.bool b3) := el (h 99 (by decide +kernel))
            clear h hsz hdf
            go_wp2
            all_goals first | exact ⟨_, rfl, (by rw [← HC3.out]; rfl), (by first | rfl | trivial)⟩ | (rw [← HC3.out]; first | done | rfl)
          · have e96 : ac.tmps[96]? = some (.bool true) := el (h 96 (by decide +kernel))
            have e99 : ac.tmps[99]? = some (undef) := el (h 99 (by decide +kernel))
            clear h hsz hdf
            go_wp2
            all_goals first | exact ⟨_, rfl, (by rw [← HC3.out]; rfl), (by first | rfl | trivial)⟩ | (rw [← HC3.out]; first | done | rfl)
        · intro ac wx hE hsz hdf h
          obtain rfl : vZ = wx := hE
          have e100 : ac.tmps[100]? = some (.bool c3) := el (h 100 (by decide +kernel))
          clear h hsz hdf
          go_wp2
          all_goals first | exact ⟨_, rfl, rfl, (by first | rfl | trivial)⟩ | rfl
        · intro ac wx hE hsz hdf h
          obtain rfl : vZ = wx := hE
          cases c3
          · have e6 : ac.tmps[6]? = some (.pointer (some ⟨gx, 0, none⟩)) := el0 (h 6 (by decide +kernel)) rfl
            have e101 : ac.tmps[101]? = some (.bool false) := el (h 101 (by decide +kernel))
            clear h hsz hdf
            go_wp2
            all_goals first | exact ⟨_, rfl, rfl, (by first | rfl | trivial)⟩ | rfl
          · have e6 : ac.tmps[6]? = some (.pointer (some ⟨gx, 0, none⟩)) := el0 (h 6 (by decide +kernel)) rfl
            have e101 : ac.tmps[101]? = some (.bool true) := el (h 101 (by decide +kernel))
            clear h hsz hdf
            go_wp2
            all_goals first | exact ⟨_, rfl, rfl, (by first | rfl | trivial)⟩ | rfl
        · intro ac wx hE hsz hdf h
          obtain rfl : vZ = wx := hE
          cases c3
          · have e102 : ac.tmps[102]? = some (.pointer (some ⟨gx, 2, none⟩)) := el (h 102 (by decide +kernel))
            have e101 : ac.tmps[101]? = some (.bool false) := el (h 101 (by decide +kernel))
            clear h hsz hdf
            obtain ⟨y0, y1, y2, y3⟩ := HCELL.out
            go_wp2
            all_goals first | exact ⟨_, rfl, rfl, (by first | rfl | trivial)⟩ | rfl
          · have e102 : ac.tmps[102]? = some (undef) := el (h 102 (by decide +kernel))
            have e101 : ac.tmps[101]? = some (.bool true) := el (h 101 (by decide +kernel))
            clear h hsz hdf
            go_wp2
            all_goals first | exact ⟨_, rfl, rfl, (by first | rfl | trivial)⟩ | rfl
        · intro ac wx hE hsz hdf h
          obtain rfl : vZ = wx := hE
          cases c3
          · have e0 : ac.tmps[0]? = some (.slice (some ⟨bA, oA, none⟩) N cc) := el0 (h 0 (by decide +kernel)) rfl
            have e101 : ac.tmps[101]? = some (.bool false) := el (h 101 (by decide +kernel))
            clear h hsz hdf
            go_wp2
            all_goals first | exact ⟨_, rfl, rfl, (by first | rfl | trivial)⟩ | rfl
          · have e0 : ac.tmps[0]? = some (.slice (some ⟨bA, oA, none⟩) N cc) := el0 (h 0 (by decide +kernel)) rfl
            have e101 : ac.tmps[101]? = some (.bool true) := el (h 101 (by decide +kernel))
            clear h hsz hdf
            go_wp2
            all_goals first | exact ⟨_, rfl, rfl, (by first | rfl | trivial)⟩ | rfl
        · intro ac wx hE hsz hdf h
          obtain rfl : vZ = wx := hE
          cases c3
          · have e104 : ac.tmps[104]? = some (.slice (some ⟨bA, oA, none⟩) N cc) := el (h 104 (by decide +kernel))
            have e101 : ac.tmps[101]? = some (.bool false) := el (h 101 (by decide +kernel))
            clear h hsz hdf
            go_wp2
            all_goals first | exact ⟨_, rfl, rfl, (by first | rfl | trivial)⟩ | rfl
          · have e104 : ac.tmps[104]? = some (undef) := el (h 104 (by decide +kernel))
            have e101 : ac.tmps[101]? = some (.bool true) := el (h 101 (by decide +kernel))
            clear h hsz hdf
            go_wp2
            all_goals first | exact ⟨_, rfl, rfl, (by first | rfl | trivial)⟩ | rfl
        · intro ac wx hE hsz hdf h
          obtain rfl : vZ = wx := hE
          cases c3
          · have e103 : ac.tmps[103]? = some (.int .i64 Y) := el (h 103 (by decide +kernel))
            have e105 : ac.tmps[105]? = some (.int .i64 (N : Nat)) := el (h 105 (by decide +kernel))
            have e101 : ac.tmps[101]? = some (.bool false) := el (h 101 (by decide +kernel))
            clear h hsz hdf
            go_wp2
            all_goals first | exact ⟨_, rfl, (by rw [← HQ4.out]; rfl), (by first | rfl | trivial)⟩ | (rw [← HQ4.out]; first | done | rfl)
          · have e103 : ac.tmps[103]? = some (undef) := el (h 103 (by decide +kernel))
            have e105 : ac.tmps[105]? = some (undef) := el (h 105 (by decide +kernel))
            have e101 : ac.tmps[101]? = some (.bool true) := el (h 101 (by decide +kernel))
            clear h hsz hdf
            go_wp2
            all_goals first | exact ⟨_, rfl, rfl, (by first | rfl | trivial)⟩ | rfl
        · intro ac wx hE hsz hdf h
          obtain rfl : vZ = wx := hE
          cases c3
          · have e101 : ac.tmps[101]? = some (.bool false) := el (h 101 (by decide +kernel))
            have e106 : ac.tmps[106]? = some (.bool b4) := el (h 106 (by decide +kernel))
            clear h hsz hdf
            go_wp2
            all_goals first | exact ⟨_, rfl, (by rw [← HC4.out]; rfl), (by first | rfl | trivial)⟩ | (rw [← HC4.out]; first | done | rfl)
          · have e101 : ac.tmps[101]? = some (.bool true) := el (h 101 (by decide +kernel))
            have e106 : ac.tmps[106]? = some (undef) := el (h 106 (by decide +kernel))
            clear h hsz hdf
            go_wp2
            all_goals first | exact ⟨_, rfl, (by rw [← HC4.out]; rfl), (by first | rfl | trivial)⟩ | (rw [← HC4.out]; first | done | rfl)
        · intro ac wx hE hsz hdf h
          obtain rfl : vZ = wx := hE
          have e107 : ac.tmps[107]? = some (.bool c4) := el (h 107 (by decide +kernel))
          clear h hsz hdf
          go_wp2
          all_goals first | exact ⟨_, rfl, rfl, (by first | rfl | trivial)⟩ | rfl
        · intro ac wx hE hsz hdf h
          obtain rfl : vZ = wx := hE
          cases c4
          · have e6 : ac.tmps[6]? = some (.pointer (some ⟨gx, 0, none⟩)) := el0 (h 6 (by decide +kernel)) rfl
            have e108 : ac.tmps[108]? = some (.bool false) := el (h 108 (by decide +kernel))
            clear h hsz hdf
            go_wp2
            all_goals first | exact ⟨_, rfl, rfl, (by first | rfl | trivial)⟩ | rfl
          · have e6 : ac.tmps[6]? = some (.pointer (some ⟨gx, 0, none⟩)) := el0 (h 6 (by decide +kernel)) rfl
            have e108 : ac.tmps[108]? = some (.bool true) := el (h 108 (by decide +kernel))
            clear h hsz hdf
            go_wp2
            all_goals first | exact ⟨_, rfl, rfl, (by first | rfl | trivial)⟩ | rfl
        · intro ac wx hE hsz hdf h
          obtain rfl : vZ = wx := hE
          cases c4
          · have e109 : ac.tmps[109]? = some (.pointer (some ⟨gx, 0, none⟩)) := el (h 109 (by decide +kernel))
            have e108 : ac.tmps[108]? = some (.bool false) := el (h 108 (by decide +kernel))
            clear h hsz hdf
            obtain ⟨y0, y1, y2, y3⟩ := HCELL.out
            go_wp2
            all_goals first | exact ⟨_, rfl, rfl, (by first | rfl | trivial)⟩ | rfl
          · have e109 : ac.tmps[109]? = some (undef) := el (h 109 (by decide +kernel))
            have e108 : ac.tmps[108]? = some (.bool true) := el (h 108 (by decide +kernel))
            clear h hsz hdf
            go_wp2
            all_goals first | exact ⟨_, rfl, rfl, (by first | rfl | trivial)⟩ | rfl
        · intro ac wx hE hsz hdf h
          obtain rfl : vZ = wx := hE
          cases c4
          · have e110 : ac.tmps[110]? = some (.int .i64 o9) := el (h 110 (by decide +kernel))
            have e108 : ac.tmps[108]? = some (.bool false) := el (h 108 (by decide +kernel))
            clear h hsz hdf
            go_wp2
            all_goals first | exact ⟨_, rfl, rfl, (by first | rfl | trivial)⟩ | rfl
          · have e110 : ac.tmps[110]? = some (undef) := el (h 110 (by decide +kernel))
            have e108 : ac.tmps[108]? = some (.bool true) := el (h 108 (by decide +kernel))
            clear h hsz hdf
            go_wp2
            all_goals first | exact ⟨_, rfl, rfl, (by first | rfl | trivial)⟩ | rfl
        · intro ac wx hE hsz hdf h
          obtain rfl : vZ = wx := hE
          cases c4
          · have e111 : ac.tmps[111]? = some (.bool true) := el (h 111 (by decide +kernel))
            have e108 : ac.tmps[108]? = some (.bool false) := el (h 108 (by decide +kernel))
            clear h hsz hdf
            go_wp2
            all_goals first | exact ⟨_, rfl, rfl, (by first | rfl | trivial)⟩ | rfl
          · have e111 : ac.tmps[111]? = some (undef) := el (h 111 (by decide +kernel))
            have e108 : ac.tmps[108]? = some (.bool true) := el (h 108 (by decide +kernel))
            clear h hsz hdf
            go_wp2
            all_goals first | exact ⟨_, rfl, rfl, (by first | rfl | trivial)⟩ | rfl
        · intro ac wx hE hsz hdf h
          obtain rfl : vZ = wx := hE
          cases c4
          · have e6 : ac.tmps[6]? = some (.pointer (some ⟨gx, 0, none⟩)) := el0 (h 6 (by decide +kernel)) rfl
            have e112 : ac.tmps[112]? = some (.bool true) := el (h 112 (by decide +kernel))
            clear h hsz hdf
            go_wp2
            all_goals first | exact ⟨_, rfl, rfl, (by first | rfl | trivial)⟩ | rfl
          · have e6 : ac.tmps[6]? = some (.pointer (some ⟨gx, 0, none⟩)) := el0 (h 6 (by decide +kernel)) rfl
            have e112 : ac.tmps[112]? = some (undef) := el (h 112 (by decide +kernel))
            clear h hsz hdf
            refine wpList_skip rfl rfl e112 ?_
            all_goals first | exact ⟨_, rfl, rfl, (by first | rfl | trivial)⟩ | rfl
        · intro ac wx hE hsz hdf h
          obtain rfl : vZ = wx := hE
          cases c4
          · have e113 : ac.tmps[113]? = some (.pointer (some ⟨gx, 3, none⟩)) := el (h 113 (by decide +kernel))
            have e112 : ac.tmps[112]? = some (.bool true) := el (h 112 (by decide +kernel))
            clear h hsz hdf
            obtain ⟨y0, y1, y2, y3⟩ := HCELL.out
            go_wp2
            all_goals first | exact ⟨_, rfl, rfl, (by first | rfl | trivial)⟩ | rfl
          · have e113 : ac.tmps[113]? = some (undef) := el (h 113 (by decide +kernel))
            have e112 : ac.tmps[112]? = some (undef) := el (h 112 (by decide +kernel))
            clear h hsz hdf
            refine wpList_skip rfl rfl e112 ?_
            all_goals first | exact ⟨_, rfl, rfl, (by first | rfl | trivial)⟩ | rfl
        · intro ac wx hE hsz hdf h
          obtain rfl : vZ = wx := hE
          cases c4
          · have e114 : ac.tmps[114]? = some (.int .i64 Z) := el (h 114 (by decide +kernel))
            have e112 : ac.tmps[112]? = some (.bool true) := el (h 112 (by decide +kernel))
            clear h hsz hdf
            go_wp2
            all_goals first | exact ⟨_, rfl, (by rw [← HQ5.out]; rfl), (by first | rfl | trivial)⟩ | (rw [← HQ5.out]; first | done | rfl)
          · have e114 : ac.tmps[114]? = some (undef) := el (h 114 (by decide +kernel))
            have e112 : ac.tmps[112]? = some (undef) := el (h 112 (by decide +kernel))
            clear h hsz hdf
            refine wpList_skip rfl rfl e112 ?_
            all_goals first | exact ⟨_, rfl, rfl, (by first | rfl | trivial)⟩ | rfl
        · intro ac wx hE hsz hdf h
          obtain rfl : vZ = wx := hE
          cases c4
          · have e115 : ac.tmps[115]? = some (.bool b5) := el (h 115 (by decide +kernel))
            have e112 : ac.tmps[112]? = some (.bool true) := el (h 112 (by decide +kernel))
            clear h hsz hdf
            go_wp2
            all_goals first | exact ⟨_, rfl, rfl, (by first | rfl | trivial)⟩ | rfl
          · have e115 : ac.tmps[115]? = some (undef) := el (h 115 (by decide +kernel))
            have e112 : ac.tmps[112]? = some (undef) := el (h 112 (by decide +kernel))
            clear h hsz hdf
            refine wpList_skip rfl rfl e112 ?_
            all_goals first | exact ⟨_, rfl, rfl, (by first | rfl | trivial)⟩ | rfl
        · intro ac wx hE hsz hdf h
          obtain rfl : vZ = wx := hE
          cases c4
          · cases b5
            · have e6 : ac.tmps[6]? = some (.pointer (some ⟨gx, 0, none⟩)) := el0 (h 6 (by decide +kernel)) rfl
              have e116 : ac.tmps[116]? = some (.bool false) := el (h 116 (by decide +kernel))
              clear h hsz hdf
              go_wp2
              all_goals first | exact ⟨_, rfl, rfl, (by first | rfl | trivial)⟩ | rfl
            · have e6 : ac.tmps[6]? = some (.pointer (some ⟨gx, 0, none⟩)) := el0 (h 6 (by decide +kernel)) rfl
              have e116 : ac.tmps[116]? = some (.bool true) := el (h 116 (by decide +kernel))
              clear h hsz hdf
              go_wp2
              all_goals first | exact ⟨_, rfl, rfl, (by first | rfl | trivial)⟩ | rfl
          · cases b5
            · have e6 : ac.tmps[6]? = some (.pointer (some ⟨gx, 0, none⟩)) := el0 (h 6 (by decide +kernel)) rfl
              have e116 : ac.tmps[116]? = some (undef) := el (h 116 (by decide +kernel))
              clear h hsz hdf
              refine wpList_skip rfl rfl e116 ?_
              all_goals first | exact ⟨_, rfl, rfl, (by first | rfl | trivial)⟩ | rfl
            · have e6 : ac.tmps[6]? = some (.pointer (some ⟨gx, 0, none⟩)) := el0 (h 6 (by decide +kernel)) rfl
              have e116 : ac.tmps[116]? = some (undef) := el (h 116 (by decide +kernel))
              clear h hsz hdf
              refine wpList_skip rfl rfl e116 ?_
              all_goals first | exact ⟨_, rfl, rfl, (by first | rfl | trivial)⟩ | rfl
        · intro ac wx hE hsz hdf h
          obtain rfl : vZ = wx := hE
          cases c4
          · cases b5
            · have e117 : ac.tmps[117]? = some (.pointer (some ⟨gx, 3, none⟩)) := el (h 117 (by decide +kernel))
              have e116 : ac.tmps[116]? = some (.bool false) := el (h 116 (by decide +kernel))
              clear h hsz hdf
              obtain ⟨y0, y1, y2, y3⟩ := HCELL.out
              go_wp2
              all_goals first | exact ⟨_, rfl, rfl, (by first | rfl | trivial)⟩ | rfl
            · have e117 : ac.tmps[117]? = some (undef) := el (h 117 (by decide +kernel))
              have e116 : ac.tmps[116]? = some (.bool true) := el (h 116 (by decide +kernel))
              clear h hsz hdf
              go_wp2
              all_goals first | exact ⟨_, rfl, rfl, (by first | rfl | trivial)⟩ | rfl
          · cases b5
            · have e117 : ac.tmps[117]? = some (undef) := el (h 117 (by decide +kernel))
              have e116 : ac.tmps[116]? = some (undef) := el (h 116 (by decide +kernel))
              clear h hsz hdf
              refine wpList_skip rfl rfl e116 ?_
              all_goals first | exact ⟨_, rfl, rfl, (by first | rfl | trivial)⟩ | rfl
            · have e117 : ac.tmps[117]? = some (undef) := el (h 117 (by decide +kernel))
              have e116 : ac.tmps[116]? = some (undef) := el (h 116 (by decide +kernel))
              clear h hsz hdf
              refine wpList_skip rfl rfl e116 ?_
              all_goals first | exact ⟨_, rfl, rfl, (by first | rfl | trivial)⟩ | rfl
        · intro ac wx hE hsz hdf h
          obtain rfl : vZ = wx := hE
          cases c4
          · cases b5
            · have e1 : ac.tmps[1]? = some (.int .i64 (g : Nat)) := el0 (h 1 (by decide +kernel)) rfl
              have e116 : ac.tmps[116]? = some (.bool false) := el (h 116 (by decide +kernel))
              clear h hsz hdf
              go_wp2
              all_goals first | exact ⟨_, rfl, rfl, (by first | rfl | trivial)⟩ | rfl
            · have e1 : ac.tmps[1]? = some (.int .i64 (g : Nat)) := el0 (h 1 (by decide +kernel)) rfl
              have e116 : ac.tmps[116]? = some (.bool true) := el (h 116 (by decide +kernel))
              clear h hsz hdf
              go_wp2
              all_goals first | exact ⟨_, rfl, rfl, (by first | rfl | trivial)⟩ | rfl
          · cases b5
            · have e1 : ac.tmps[1]? = some (.int .i64 (g : Nat)) := el0 (h 1 (by decide +kernel)) rfl
              have e116 : ac.tmps[116]? = some (undef) := el (h 116 (by decide +kernel))
              clear h hsz hdf
              refine wpList_skip rfl rfl e116 ?_
              all_goals first | exact ⟨_, rfl, rfl, (by first | rfl | trivial)⟩ | rfl
            · have e1 : ac.tmps[1]? = some (.int .i64 (g : Nat)) := el0 (h 1 (by decide +kernel)) rfl
              have e116 : ac.tmps[116]? = some (undef) := el (h 116 (by decide +kernel))
              clear h hsz hdf
              refine wpList_skip rfl rfl e116 ?_
              all_goals first | exact ⟨_, rfl, rfl, (by first | rfl | trivial)⟩ | rfl
        · intro ac wx hE hsz hdf h
          obtain rfl : vZ = wx := hE
          cases c4
          · cases b5
            · have e119 : ac.tmps[119]? = some (.int .i64 (g : Nat)) := el (h 119 (by decide +kernel))
              have e116 : ac.tmps[116]? = some (.bool false) := el (h 116 (by decide +kernel))
              clear h hsz hdf
              go_wp2
              all_goals first | exact ⟨_, rfl, rfl, (by first | rfl | trivial)⟩ | rfl
            · have e119 : ac.tmps[119]? = some (undef) := el (h 119 (by decide +kernel))
              have e116 : ac.tmps[116]? = some (.bool true) := el (h 116 (by decide +kernel))
              clear h hsz hdf
              go_wp2
              all_goals first | exact ⟨_, rfl, rfl, (by first | rfl | trivial)⟩ | rfl
          · cases b5
            · have e119 : ac.tmps[119]? = some (undef) := el (h 119 (by decide +kernel))
              have e116 : ac.tmps[116]? = some (undef) := el (h 116 (by decide +kernel))
              clear h hsz hdf
              refine wpList_skip rfl rfl e116 ?_
              all_goals first | exact ⟨_, rfl, rfl, (by first | rfl | trivial)⟩ | rfl
            · have e119 : ac.tmps[119]? = some (undef) := el (h 119 (by decide +kernel))
              have e116 : ac.tmps[116]? = some (undef) := el (h 116 (by decide +kernel))
              clear h hsz hdf
              refine wpList_skip rfl rfl e116 ?_
              all_goals first | exact ⟨_, rfl, rfl, (by first | rfl | trivial)⟩ | rfl
        · intro ac wx hE hsz hdf h
          obtain rfl : vZ = wx := hE
          cases c4
          · cases b5
            · have e120 : ac.tmps[120]? = some (.int .i64 (2 * (g : Int))) := el (h 120 (by decide +kernel))
              have e116 : ac.tmps[116]? = some (.bool false) := el (h 116 (by decide +kernel))
              clear h hsz hdf
              go_wp2
              all_goals first | exact ⟨_, rfl, rfl, (by first | rfl | trivial)⟩ | rfl
            · have e120 : ac.tmps[120]? = some (undef) := el (h 120 (by decide +kernel))
              have e116 : ac.tmps[116]? = some (.bool true) := el (h 116 (by decide +kernel))
              clear h hsz hdf
              go_wp2
              all_goals first | exact ⟨_, rfl, rfl, (by first | rfl | trivial)⟩ | rfl
          · cases b5
            · have e120 : ac.tmps[120]? = some (undef) := el (h 120 (by decide +kernel))
              have e116 : ac.tmps[116]? = some (undef) := el (h 116 (by decide +kernel))
              clear h hsz hdf
              refine wpList_skip rfl rfl e116 ?_
              all_goals first | exact ⟨_, rfl, rfl, (by first | rfl | trivial)⟩ | rfl
            · have e120 : ac.tmps[120]? = some (undef) := el (h 120 (by decide +kernel))
              have e116 : ac.tmps[116]? = some (undef) := el (h 116 (by decide +kernel))
              clear h hsz hdf
              refine wpList_skip rfl rfl e116 ?_
              all_goals first | exact ⟨_, rfl, rfl, (by first | rfl | trivial)⟩ | rfl
        · intro ac wx hE hsz hdf h
          obtain rfl : vZ = wx := hE
          cases c4
          · cases b5
            · have e118 : ac.tmps[118]? = some (.int .i64 Z) := el (h 118 (by decide +kernel))
              have e121 : ac.tmps[121]? = some (.int .i64 (2 * (g : Int) + 1)) := el (h 121 (by decide +kernel))
              have e116 : ac.tmps[116]? = some (.bool false) := el (h 116 (by decide +kernel))
              clear h hsz hdf
              go_wp2
              all_goals first | exact ⟨_, rfl, (by rw [← HQ6.out]; rfl), (by first | rfl | trivial)⟩ | (rw [← HQ6.out]; first | done | rfl)
            · have e118 : ac.tmps[118]? = some (undef) := el (h 118 (by decide +kernel))
              have e121 : ac.tmps[121]? = some (undef) := el (h 121 (by decide +kernel))
              have e116 : ac.tmps[116]? = some (.bool true) := el (h 116 (by decide +kernel))
              clear h hsz hdf
              go_wp2
              all_goals first | exact ⟨_, rfl, rfl, (by first | rfl | trivial)⟩ | rfl
          · cases b5
            · have e118 : ac.tmps[118]? = some (undef) := el (h 118 (by decide +kernel))
              have e121 : ac.tmps[121]? = some (undef) := el (h 121 (by decide +kernel))
              have e116 : ac.tmps[116]? = some (undef) := el (h 116 (by decide +kernel))
              clear h hsz hdf
              refine wpList_skip rfl rfl e116 ?_
              all_goals first | exact ⟨_, rfl, rfl, (by first | rfl | trivial)⟩ | rfl
            · have e118 : ac.tmps[118]? = some (undef) := el (h 118 (by decide +kernel))
              have e121 : ac.tmps[121]? = some (undef) := el (h 121 (by decide +kernel))
              have e116 : ac.tmps[116]? = some (undef) := el (h 116 (by decide +kernel))
              clear h hsz hdf
              refine wpList_skip rfl rfl e116 ?_
              all_goals first | exact ⟨_, rfl, rfl, (by first | rfl | trivial)⟩ | rfl
        · intro ac wx hE hsz hdf h
          obtain rfl : vZ = wx := hE
          cases c4
          · cases b5
            · have e116 : ac.tmps[116]? = some (.bool false) := el (h 116 (by decide +kernel))
              have e122 : ac.tmps[122]? = some (.bool b6) := el (h 122 (by decide +kernel))
              have e112 : ac.tmps[112]? = some (.bool true) := el (h 112 (by decide +kernel))
              clear h hsz hdf
              go_wp2
              all_goals first | exact ⟨_, rfl, (by rw [← HC7.out]; rfl), (by first | rfl | trivial)⟩ | (rw [← HC7.out]; first | done | rfl)
            · have e116 : ac.tmps[116]? = some (.bool true) := el (h 116 (by decide +kernel))
              have e122 : ac.tmps[122]? = some (undef) := el (h 122 (by decide +kernel))
              have e112 : ac.tmps[112]? = some (.bool true) := el (h 112 (by decide +kernel))
              clear h hsz hdf
              go_wp2
              all_goals first | exact ⟨_, rfl, (by rw [← HC7.out]; rfl), (by first | rfl | trivial)⟩ | (rw [← HC7.out]; first | done | rfl)
          · cases b5
            · have e116 : ac.tmps[116]? = some (undef) := el (h 116 (by decide +kernel))
              have e122 : ac.tmps[122]? = some (undef) := el (h 122 (by decide +kernel))
              have e112 : ac.tmps[112]? = some (undef) := el (h 112 (by decide +kernel))
              clear h hsz hdf
              refine wpList_skip rfl rfl e112 ?_
              all_goals first | exact ⟨_, rfl, rfl, (by first | rfl | trivial)⟩ | rfl
            · have e116 : ac.tmps[116]? = some (undef) := el (h 116 (by decide +kernel))
              have e122 : ac.tmps[122]? = some (undef) := el (h 122 (by decide +kernel))
              have e112 : ac.tmps[112]? = some (undef) := el (h 112 (by decide +kernel))
              clear h hsz hdf
              refine wpList_skip rfl rfl e112 ?_
              all_goals first | exact ⟨_, rfl, rfl, (by first | rfl | trivial)⟩ | rfl
        · intro ac wx hE hsz hdf h
          obtain rfl : vZ = wx := hE
          cases c4
          · have e112 : ac.tmps[112]? = some (.bool true) := el (h 112 (by decide +kernel))
            have e123 : ac.tmps[123]? = some (.bool c7) := el (h 123 (by decide +kernel))
            have e108 : ac.tmps[108]? = some (.bool false) := el (h 108 (by decide +kernel))
            clear h hsz hdf
            go_wp2
            all_goals first | exact ⟨_, rfl, (by rw [← HC7.out]; rfl), (by first | rfl | trivial)⟩ | (rw [← HC7.out]; first | done | rfl)
          · have e112 : ac.tmps[112]? = some (undef) := el (h 112 (by decide +kernel))
            have e123 : ac.tmps[123]? = some (undef) := el (h 123 (by decide +kernel))
            have e108 : ac.tmps[108]? = some (.bool true) := el (h 108 (by decide +kernel))
            clear h hsz hdf
            go_wp2
            all_goals first | exact ⟨_, rfl, rfl, (by first | rfl | trivial)⟩ | rfl
        · intro ac wx hE hsz hdf h
          obtain rfl : vZ = wx := hE
          cases c4
          · have e108 : ac.tmps[108]? = some (.bool false) := el (h 108 (by decide +kernel))
            have e124 : ac.tmps[124]? = some (.bool c7) := el (h 124 (by decide +kernel))
            clear h hsz hdf
            go_wp2
            all_goals first | exact ⟨_, rfl, (by rw [← HC8.out]; rfl), (by first | rfl | trivial)⟩ | (rw [← HC8.out]; first | done | rfl)
          · have e108 : ac.tmps[108]? = some (.bool true) := el (h 108 (by decide +kernel))
            have e124 : ac.tmps[124]? = some (undef) := el (h 124 (by decide +kernel))
            clear h hsz hdf
            go_wp2
            all_goals first | exact ⟨_, rfl, (by rw [← HC8.out]; rfl), (by first | rfl | trivial)⟩ | (rw [← HC8.out]; first | done | rfl)
        · intro ac w9 hE hsz hdf h hrest
          obtain ⟨v0, s0, g0⟩ := h 0 _ rfl
          have e0 := g0 81 rfl
          obtain rfl : v0 = VX := s0
          obtain ⟨v1, s1, g1⟩ := h 1 _ rfl
          have e1 := g1 82 rfl
          obtain rfl : v1 = VY := s1
          obtain ⟨v2, s2, g2⟩ := h 2 _ rfl
          have e2 := g2 83 rfl
          obtain rfl : v2 = .bool b0 := s2
          obtain ⟨v3, s3, g3⟩ := h 3 _ rfl
          have e3 := g3 84 rfl
          obtain rfl : v3 = .bool b0 := s3
          obtain ⟨v4, s4, g4⟩ := h 4 _ rfl
          have e4 := g4 85 rfl
          obtain rfl : v4 = sk b0 (.pointer (some ⟨gx, 1, none⟩)) := s4
          obtain ⟨v5, s5, g5⟩ := h 5 _ rfl
          have e5 := g5 86 rfl
          obtain rfl : v5 = sk b0 (.int .i64 X) := s5
          obtain ⟨v6, s6, g6⟩ := h 6 _ rfl
          have e6 := g6 87 rfl
          obtain rfl : v6 = sk b0 (.bool b1) := s6
          obtain ⟨v7, s7, g7⟩ := h 7 _ rfl
          have e7 := g7 88 rfl
          obtain rfl : v7 = .bool c1 := s7
          obtain ⟨v8, s8, g8⟩ := h 8 _ rfl
          have e8 := g8 89 rfl
          obtain rfl : v8 = .bool c1 := s8
          obtain ⟨v9, s9, g9⟩ := h 9 _ rfl
          have e9 := g9 90 rfl
          obtain rfl : v9 = sk c1 (.pointer (some ⟨gx, 1, none⟩)) := s9
          obtain ⟨v10, s10, g10⟩ := h 10 _ rfl
          have e10 := g10 91 rfl
          obtain rfl : v10 = sk c1 (.int .i64 X) := s10
          obtain ⟨v11, s11, g11⟩ := h 11 _ rfl
          have e11 := g11 92 rfl
          obtain rfl : v11 = sk c1 (.slice (some ⟨bA, oA, none⟩) N cc) := s11
          obtain ⟨v12, s12, g12⟩ := h 12 _ rfl
          have e12 := g12 93 rfl
          obtain rfl : v12 = sk c1 (.int .i64 (N : Nat)) := s12
          obtain ⟨v13, s13, g13⟩ := h 13 _ rfl
          have e13 := g13 94 rfl
          obtain rfl : v13 = sk c1 (.bool b2) := s13
          obtain ⟨v14, s14, g14⟩ := h 14 _ rfl
          have e14 := g14 95 rfl
          obtain rfl : v14 = .bool c2 := s14
          obtain ⟨v15, s15, g15⟩ := h 15 _ rfl
          have e15 := g15 96 rfl
          obtain rfl : v15 = .bool c2 := s15
          obtain ⟨v16, s16, g16⟩ := h 16 _ rfl
          have e16 := g16 97 rfl
          obtain rfl : v16 = sk c2 (.pointer (some ⟨gx, 2, none⟩)) := s16
          obtain ⟨v17, s17, g17⟩ := h 17 _ rfl
          have e17 := g17 98 rfl
          obtain rfl : v17 = sk c2 (.int .i64 Y) := s17
          obtain ⟨v18, s18, g18⟩ := h 18 _ rfl
          have e18 := g18 99 rfl
          obtain rfl : v18 = sk c2 (.bool b3) := s18
          obtain ⟨v19, s19, g19⟩ := h 19 _ rfl
          have e19 := g19 100 rfl
          obtain rfl : v19 = .bool c3 := s19
          obtain ⟨v20, s20, g20⟩ := h 20 _ rfl
          have e20 := g20 101 rfl
          obtain rfl : v20 = .bool c3 := s20
          obtain ⟨v21, s21, g21⟩ := h 21 _ rfl
          have e21 := g21 102 rfl
          obtain rfl : v21 = sk c3 (.pointer (some ⟨gx, 2, none⟩)) := s21
          obtain ⟨v22, s22, g22⟩ := h 22 _ rfl
          have e22 := g22 103 rfl
          obtain rfl : v22 = sk c3 (.int .i64 Y) := s22
          obtain ⟨v23, s23, g23⟩ := h 23 _ rfl
          have e23 := g23 104 rfl
          obtain rfl : v23 = sk c3 (.slice (some ⟨bA, oA, none⟩) N cc) := s23
          obtain ⟨v24, s24, g24⟩ := h 24 _ rfl
          have e24 := g24 105 rfl
          obtain rfl : v24 = sk c3 (.int .i64 (N : Nat)) := s24
          obtain ⟨v25, s25, g25⟩ := h 25 _ rfl
          have e25 := g25 106 rfl
          obtain rfl : v25 = sk c3 (.bool b4) := s25
          obtain ⟨v26, s26, g26⟩ := h 26 _ rfl
          have e26 := g26 107 rfl
          obtain rfl : v26 = .bool c4 := s26
          obtain ⟨v27, s27, g27⟩ := h 27 _ rfl
          have e27 := g27 108 rfl
          obtain rfl : v27 = .bool c4 := s27
          obtain ⟨v28, s28, g28⟩ := h 28 _ rfl
          have e28 := g28 109 rfl
          obtain rfl : v28 = sk c4 (.pointer (some ⟨gx, 0, none⟩)) := s28
          obtain ⟨v29, s29, g29⟩ := h 29 _ rfl
          have e29 := g29 110 rfl
          obtain rfl : v29 = sk c4 (.int .i64 o9) := s29
          obtain ⟨v30, s30, g30⟩ := h 30 _ rfl
          have e30 := g30 111 rfl
          obtain rfl : v30 = sk c4 (.bool true) := s30
          obtain ⟨v31, s31, g31⟩ := h 31 _ rfl
          have e31 := g31 112 rfl
          obtain rfl : v31 = sk c4 (.bool true) := s31
          obtain ⟨v32, s32, g32⟩ := h 32 _ rfl
          have e32 := g32 113 rfl
          obtain rfl : v32 = sk c4 (.pointer (some ⟨gx, 3, none⟩)) := s32
          obtain ⟨v33, s33, g33⟩ := h 33 _ rfl
          have e33 := g33 114 rfl
          obtain rfl : v33 = sk c4 (.int .i64 Z) := s33
          obtain ⟨v34, s34, g34⟩ := h 34 _ rfl
          have e34 := g34 115 rfl
          obtain rfl : v34 = sk c4 (.bool b5) := s34
          obtain ⟨v35, s35, g35⟩ := h 35 _ rfl
          have e35 := g35 116 rfl
          obtain rfl : v35 = sk c4 (.bool b5) := s35
          obtain ⟨v36, s36, g36⟩ := h 36 _ rfl
          have e36 := g36 117 rfl
          obtain rfl : v36 = sk c4 (sk b5 (.pointer (some ⟨gx, 3, none⟩))) := s36
          obtain ⟨v37, s37, g37⟩ := h 37 _ rfl
          have e37 := g37 118 rfl
          obtain rfl : v37 = sk c4 (sk b5 (.int .i64 Z)) := s37
          obtain ⟨v38, s38, g38⟩ := h 38 _ rfl
          have e38 := g38 119 rfl
          obtain rfl : v38 = sk c4 (sk b5 (.int .i64 (g : Nat))) := s38
          obtain ⟨v39, s39, g39⟩ := h 39 _ rfl
          have e39 := g39 120 rfl
          obtain rfl : v39 = sk c4 (sk b5 (.int .i64 (2 * (g : Int)))) := s39
          obtain ⟨v40, s40, g40⟩ := h 40 _ rfl
          have e40 := g40 121 rfl
          obtain rfl : v40 = sk c4 (sk b5 (.int .i64 (2 * (g : Int) + 1))) := s40
          obtain ⟨v41, s41, g41⟩ := h 41 _ rfl
          have e41 := g41 122 rfl
          obtain rfl : v41 = sk c4 (sk b5 (.bool b6)) := s41
          obtain ⟨v42, s42, g42⟩ := h 42 _ rfl
          have e42 := g42 123 rfl
          obtain rfl : v42 = sk c4 (.bool c7) := s42
          obtain ⟨v43, s43, g43⟩ := h 43 _ rfl
          have e43 := g43 124 rfl
          obtain rfl : v43 = sk c4 (.bool c7) := s43
          obtain ⟨v44, s44, g44⟩ := h 44 _ rfl
          have e44 := g44 125 rfl
          obtain rfl : v44 = .bool c8 := s44
          have ha := act_of [(81, v0), (82, v1), (83, .bool b0), (84, .bool b0), (85, sk b0 (.pointer (some ⟨gx, 1, none⟩))), (86, sk b0 (.int .i64 X)), (87, sk b0 (.bool b1)), (88, .bool c1), (89, .bool c1), (90, sk c1 (.pointer (some ⟨gx, 1, none⟩))), (91, sk c1 (.int .i64 X)), (92, sk c1 (.slice (some ⟨bA, oA, none⟩) N cc)), (93, sk c1 (.int .i64 (N : Nat))), (94, sk c1 (.bool b2)), (95, .bool c2), (96, .bool c2), (97, sk c2 (.pointer (some ⟨gx, 2, none⟩))), (98, sk c2 (.int .i64 Y)), (99, sk c2 (.bool b3)), (100, .bool c3), (101, .bool c3), (102, sk c3 (.pointer (some ⟨gx, 2, none⟩))), (103, sk c3 (.int .i64 Y)), (104, sk c3 (.slice (some ⟨bA, oA, none⟩) N cc)), (105, sk c3 (.int .i64 (N : Nat))), (106, sk c3 (.bool b4)), (107, .bool c4), (108, .bool c4), (109, sk c4 (.pointer (some ⟨gx, 0, none⟩))), (110, sk c4 (.int .i64 o9)), (111, sk c4 (.bool true)), (112, sk c4 (.bool true)), (113, sk c4 (.pointer (some ⟨gx, 3, none⟩))), (114, sk c4 (.int .i64 Z)), (115, sk c4 (.bool b5)), (116, sk c4 (.bool b5)), (117, sk c4 (sk b5 (.pointer (some ⟨gx, 3, none⟩)))), (118, sk c4 (sk b5 (.int .i64 Z))), (119, sk c4 (sk b5 (.int .i64 (g : Nat)))), (120, sk c4 (sk b5 (.int .i64 (2 * (g : Int))))), (121, sk c4 (sk b5 (.int .i64 (2 * (g : Int) + 1)))), (122, sk c4 (sk b5 (.bool b6))), (123, sk c4 (.bool c7)), (124, sk c4 (.bool c7)), (125, .bool c8)] rfl hsz hdf (by intro p hp; simp only [List.mem_cons, List.not_mem_nil, or_false] at hp; rcases hp with rfl | rfl | rfl | rfl | rfl | rfl | rfl | rfl | rfl | rfl | rfl | rfl | rfl | rfl | rfl | rfl | rfl | rfl | rfl | rfl | rfl | rfl | rfl | rfl | rfl | rfl | rfl | rfl | rfl | rfl | rfl | rfl | rfl | rfl | rfl | rfl | rfl | rfl | rfl | rfl | rfl | rfl | rfl | rfl | rfl <;> first | exact e0 | exact e1 | exact e2 | exact e3 | exact e4 | exact e5 | exact e6 | exact e7 | exact e8 | exact e9 | exact e10 | exact e11 | exact e12 | exact e13 | exact e14 | exact e15 | exact e16 | exact e17 | exact e18 | exact e19 | exact e20 | exact e21 | exact e22 | exact e23 | exact e24 | exact e25 | exact e26 | exact e27 | exact e28 | exact e29 | exact e30 | exact e31 | exact e32 | exact e33 | exact e34 | exact e35 | exact e36 | exact e37 | exact e38 | exact e39 | exact e40 | exact e41 | exact e42 | exact e43 | exact e44) hrest
          clear h hrest hsz hdf e0 e1 e2 e3 e4 e5 e6 e7 e8 e9 e10 e11 e12 e13 e14 e15 e16 e17 e18 e19 e20 e21 e22 e23 e24 e25 e26 e27 e28 e29 e30 e31 e32 e33 e34 e35 e36 e37 e38 e39 e40 e41 e42 e43 e44 g0 g1 g2 g3 g4 g5 g6 g7 g8 g9 g10 g11 g12 g13 g14 g15 g16 g17 g18 g19 g20 g21 g22 g23 g24 g25 g26 g27 g28 g29 g30 g31 g32 g33 g34 g35 g36 g37 g38 g39 g40 g41 g42 g43 g44
          subst ha
          simp only [List.foldl_cons, List.foldl_nil, Act.put, List.setIfInBounds_toArray, List.set_cons_succ, List.set_cons_zero]
          obtain rfl : vZ = w9 := hE
          cases c8
          · have HPS := Lib.hid (HPASS.out HZ.out)
            clear HFAIL HPASS
            go_wp2
            go_roundg (N - (j + 1))
            case measure => have := HLT.out; omega
            case rel => exact ⟨j + 1, by have := HLT.out; omega, rfl, by go_num, HPS, HEX.out⟩
          · obtain rfl : V = false := HFAIL.out HZ.out
            clear HFAIL HPASS
            go_wp2
            go_ret
            exact ⟨rfl, HEX.out⟩
      focus
        have HI0 := Lib.hid HIY.out
        have e0 : w2.cell? ⟨gx, 0, none⟩ = some (.int .i64 5) := (HIX2.out).op
        go_upto_region 11 with (refine wpList_store_mid rfl 45 (.tmp 63) (.tmp 62) rfl gy 4 (bcs (fun _ => false)) rfl (by rw [← zero28]; rfl) (by rw [bcs_size]; exact ib_there (HIY.out)) (by rw [bcs_size]; exact set_size) (bcs_one _) ?_)
        have HY1 := Lib.hid (show IB (w2.setCells gy 4 (bcs (fun _ => false)).toList) gy ⟨5, X, Y, Z, fun _ => false⟩ from IB.setS (HIY.out) (fun _ => false))
        have hc1 : Chg [gy] w2 (w2.setCells gy 4 (bcs (fun _ => false)).toList) := setCells_chg _ _ _
        have HX1x := Lib.hid (IB.chg1 (HIX2.out) hc1 (by have := HGY.out.1; simp; omega))
        have HXW1 := Lib.hid (show Ext wr (w2.setCells gy 4 (bcs (fun _ => false)).toList) from (Chg.trans (.of_ext HX2.out) hc1).ext (fun y hy => by simp at hy; subst hy; exact HGY.out.2))
        clear hc1 e0
        generalize w2.setCells gy 4 (bcs (fun _ => false)).toList = v1 at *
        have e0 : v1.cell? ⟨gx, 0, none⟩ = some (.int .i64 5) := (HX1x.out).op
        have f1 : v1.cell? ⟨gy, 1, none⟩ = some (.int .i64 X) := (HY1.out).x
        have ff : v1.frozen? ⟨gy, 1, none⟩ = false := Blk.frozen (HY1.out) _
        go_upto_region 13 with fail
        have HY2 := Lib.hid (show IB (v1.setCell ⟨gy, 1, none⟩ (.int .i64 0)) gy ⟨5, 0, Y, Z, fun _ => false⟩ from IB.setF (HY1.out) (di_set1 _ 0))
        have hc2 : Chg [gy] v1 (v1.setCell ⟨gy, 1, none⟩ (.int .i64 0)) := (Chg.refl _ _).setCell (p := ⟨gy, 1, none⟩) (by simp) _
        have HX2x := Lib.hid (IB.chg1 (HX1x.out) hc2 (by have := HGY.out.1; simp; omega))
        have HXW2 := Lib.hid (show Ext wr (v1.setCell ⟨gy, 1, none⟩ (.int .i64 0)) from (Chg.trans (.of_ext HXW1.out) hc2).ext (fun y hy => by simp at hy; subst hy; exact HGY.out.2))
        clear hc2 e0 f1 ff
        generalize v1.setCell ⟨gy, 1, none⟩ (.int .i64 0) = v2 at *
        have e0 : v2.cell? ⟨gx, 0, none⟩ = some (.int .i64 5) := (HX2x.out).op
        have f2 : v2.cell? ⟨gy, 2, none⟩ = some (.int .i64 Y) := (HY2.out).y
        have ff : v2.frozen? ⟨gy, 2, none⟩ = false := Blk.frozen (HY2.out) _
        go_upto_region 15 with fail
        have HY3 := Lib.hid (show IB (v2.setCell ⟨gy, 2, none⟩ (.int .i64 0)) gy ⟨5, 0, 0, Z, fun _ => false⟩ from IB.setF (HY2.out) (di_set2 _ 0))
        have hc3 : Chg [gy] v2 (v2.setCell ⟨gy, 2, none⟩ (.int .i64 0)) := (Chg.refl _ _).setCell (p := ⟨gy, 2, none⟩) (by simp) _
        have HX3x := Lib.hid (IB.chg1 (HX2x.out) hc3 (by have := HGY.out.1; simp; omega))
        have HXW3 := Lib.hid (show Ext wr (v2.setCell ⟨gy, 2, none⟩ (.int .i64 0)) from (Chg.trans (.of_ext HXW2.out) hc3).ext (fun y hy => by simp at hy; subst hy; exact HGY.out.2))
        clear hc3 e0 f2 ff
        generalize v2.setCell ⟨gy, 2, none⟩ (.int .i64 0) = v3 at *
        have e0 : v3.cell? ⟨gx, 0, none⟩ = some (.int .i64 5) := (HX3x.out).op
        have f3 : v3.cell? ⟨gy, 3, none⟩ = some (.int .i64 Z) := (HY3.out).n
        have ff : v3.frozen? ⟨gy, 3, none⟩ = false := Blk.frozen (HY3.out) _
        go_upto_region 17 with fail
        have HY4 := Lib.hid (show IB (v3.setCell ⟨gy, 3, none⟩ (.int .i64 0)) gy ⟨5, 0, 0, 0, fun _ => false⟩ from IB.setF (HY3.out) (di_set3 _ 0))
        have hc4 : Chg [gy] v3 (v3.setCell ⟨gy, 3, none⟩ (.int .i64 0)) := (Chg.refl _ _).setCell (p := ⟨gy, 3, none⟩) (by simp) _
        have HX4x := Lib.hid (IB.chg1 (HX3x.out) hc4 (by have := HGY.out.1; simp; omega))
        have HXW4 := Lib.hid (show Ext wr (v3.setCell ⟨gy, 3, none⟩ (.int .i64 0)) from (Chg.trans (.of_ext HXW3.out) hc4).ext (fun y hy => by simp at hy; subst hy; exact HGY.out.2))
        clear hc4 e0 f3 ff
        generalize v3.setCell ⟨gy, 3, none⟩ (.int .i64 0) = v4 at *
        have HEX := Lib.hid (Ext.trans HX.out HXW4.out)
        have e0 : v4.cell? ⟨gx, 0, none⟩ = some (.int .i64 5) := (HX4x.out).op
        have e1 : v4.cell? ⟨gx, 1, none⟩ = some (.int .i64 X) := (HX4x.out).x
        have e2 : v4.cell? ⟨gx, 2, none⟩ = some (.int .i64 Y) := (HX4x.out).y
        have e3 : v4.cell? ⟨gx, 3, none⟩ = some (.int .i64 Z) := (HX4x.out).n
        go_upto_region 17 with fail
        have hq := HEQ.out
        have hg9 := HEG.out
        rw [show bareI ⟨5, X, Y, Z, p⟩ = ⟨5, 0, 0, 0, fun _ => false⟩ from rfl] at hq hg9
        have hl6 := run_loadAt_mid (P := Tryd.prog) v4 gx 0 47 (diC ⟨5, X, Y, Z, p⟩) _ (ib_range (HX4x.out)) Tryd.underlying47 rfl (by rw [di_len]; exact di_size)
        have hl7 := run_loadAt_mid (P := Tryd.prog) v4 gy 0 47 (diC ⟨5, 0, 0, 0, fun _ => false⟩) _ (ib_range (HY4.out)) Tryd.underlying47 rfl (by rw [di_len]; exact di_size)
        generalize Value.agg (diC ⟨5, X, Y, Z, p⟩).toArray = VX at *
        generalize Value.agg (diC ⟨5, 0, 0, 0, fun _ => false⟩).toArray = VY at *
        obtain ⟨o9, ho9⟩ : ∃ o9 : Int, (5 : Int) = o9 := ⟨_, rfl⟩
        have h49 : (o9 == 4) = false := by rw [← ho9]; rfl
        rw [ho9] at e0
        have HCELL := Lib.hid (And.intro e0 (And.intro e1 (And.intro e2 e3)))
        have HL67 := Lib.hid (And.intro hl6 hl7)
        have HNQ := Lib.hid hq
        have HNG := Lib.hid hg9
        obtain ⟨zz, hzz⟩ : ∃ zz, rightI ⟨5, X, Y, Z, p⟩ N g = zz := ⟨_, rfl⟩
        have HZ := Lib.hid (show zz = !c4 from by rw [← hzz, HCH.out, show ((5 : Int) == 4) = false from rfl, Bool.false_and, Bool.or_false])
        rw [hzz] at HFAIL HPASS
        clear HEQ HEG e0 e1 e2 e3 hl6 hl7 hq hg9 ho9 hzz HCH HXI HRG HIX2 HIY HX2 HGY HI0 HY1 HY2 HY3 HY4 HX1x HX2x HX3x HX4x HXW1 HXW2 HXW3 HXW4
        generalize v4 = vZ at *
      all_goals
        refine wp_region_dag0 (E := fun a b : World => a = b) (w0 := vZ) (Φ := fun i v w => match i with | 0 => (v = VX) | 1 => (v = VY) | 2 => (v = .bool b0) | 3 => (v = .bool b0) | 4 => (v = sk b0 (.pointer (some ⟨gx, 1, none⟩))) | 5 => (v = sk b0 (.int .i64 X)) | 6 => (v = sk b0 (.bool b1)) | 7 => (v = .bool c1) | 8 => (v = .bool c1) | 9 => (v = sk c1 (.pointer (some ⟨gx, 1, none⟩))) | 10 => (v = sk c1 (.int .i64 X)) | 11 => (v = sk c1 (.slice (some ⟨bA, oA, none⟩) N cc)) | 12 => (v = sk c1 (.int .i64 (N : Nat))) | 13 => (v = sk c1 (.bool b2)) | 14 => (v = .bool c2) | 15 => (v = .bool c2) | 16 => (v = sk c2 (.pointer (some ⟨gx, 2, none⟩))) | 17 => (v = sk c2 (.int .i64 Y)) | 18 => (v = sk c2 (.bool b3)) | 19 => (v = .bool c3) | 20 => (v = .bool c3) | 21 => (v = sk c3 (.pointer (some ⟨gx, 2, none⟩))) | 22 => (v = sk c3 (.int .i64 Y)) | 23 => (v = sk c3 (.slice (some ⟨bA, oA, none⟩) N cc)) | 24 => (v = sk c3 (.int .i64 (N : Nat))) | 25 => (v = sk c3 (.bool b4)) | 26 => (v = .bool c4) | 27 => (v = .bool c4) | 28 => (v = sk c4 (.pointer (some ⟨gx, 0, none⟩))) | 29 => (v = sk c4 (.int .i64 o9)) | 30 => (v = sk c4 (.bool false)) | 31 => (v = sk c4 (.bool false)) | 32 => (v = undef) | 33 => (v = undef) | 34 => (v = undef) | 35 => (v = undef) | 36 => (v = undef) | 37 => (v = undef) | 38 => (v = undef) | 39 => (v = undef) | 40 => (v = undef) | 41 => (v = undef) | 42 => (v = undef) | 43 => (v = sk c4 (.bool false)) | 44 => (v = .bool c4) | _ => True) 127 rfl (by decide +kernel) ?_ rfl ?_ ⟨?_, ?_, ?_, ?_, ?_, ?_, ?_, ?_, ?_, ?_, ?_, ?_, ?_, ?_, ?_, ?_, ?_, ?_, ?_, ?_, ?_, ?_, ?_, ?_, ?_, ?_, ?_, ?_, ?_, ?_, ?_, ?_, ?_, ?_, ?_, ?_, ?_, ?_, ?_, ?_, ?_, ?_, ?_, ?_, ?_, trivial⟩ ?_
        · intro i v w w' h hE
          match i, h with
          | 0, h => exact h
          | 1, h => exact h
          | 2, h => exact h
          | 3, h => exact h
          | 4, h => exact h
          | 5, h => exact h
          | 6, h => exact h
          | 7, h => exact h
          | 8, h => exact h
          | 9, h => exact h
          | 10, h => exact h
          | 11, h => exact h
          | 12, h => exact h
          | 13, h => exact h
          | 14, h => exact h
          | 15, h => exact h
          | 16, h => exact h
          | 17, h => exact h
          | 18, h => exact h
          | 19, h => exact h
          | 20, h => exact h
          | 21, h => exact h
          | 22, h => exact h
          | 23, h => exact h
          | 24, h => exact h
          | 25, h => exact h
          | 26, h => exact h
          | 27, h => exact h
          | 28, h => exact h
          | 29, h => exact h
          | 30, h => exact h
          | 31, h => exact h
          | 32, h => exact h
          | 33, h => exact h
          | 34, h => exact h
          | 35, h => exact h
          | 36, h => exact h
          | 37, h => exact h
          | 38, h => exact h
          | 39, h => exact h
          | 40, h => exact h
          | 41, h => exact h
          | 42, h => exact h
          | 43, h => exact h
          | 44, h => exact h
          | _ + 45, _ => trivial
        · exact fun w w' h h' => h.trans h'
        · intro ac wx hE hsz hdf h
          obtain rfl : vZ = wx := hE
          have e6 : ac.tmps[6]? = some (.pointer (some ⟨gx, 0, none⟩)) := el0 (h 6 (by decide +kernel)) rfl
          clear h hsz hdf
          go_wp2_with (refine wpList_load_val rfl 47 (.tmp 6) rfl ⟨gx, 0, none⟩ (by simp [Act.eval, e6]) VX HL67.out.1 ?_)
          all_goals first | exact ⟨_, rfl, rfl, (by first | rfl | trivial)⟩ | rfl
        · intro ac wx hE hsz hdf h
          obtain rfl : vZ = wx := hE
          have e7 : ac.tmps[7]? = some (.pointer (some ⟨gy, 0, none⟩)) := el0 (h 7 (by decide +kernel)) rfl
          clear h hsz hdf
          go_wp2_with (refine wpList_load_val rfl 47 (.tmp 7) rfl ⟨gy, 0, none⟩ (by simp [Act.eval, e7]) VY HL67.out.2 ?_)
          all_goals first | exact ⟨_, rfl, rfl, (by first | rfl | trivial)⟩ | rfl
        · intro ac wx hE hsz hdf h
          obtain rfl : vZ = wx := hE
          have e81 : ac.tmps[81]? = some (VX) := el (h 81 (by decide +kernel))
          have e82 : ac.tmps[82]? = some (VY) := el (h 82 (by decide +kernel))
          clear h hsz hdf
          have hq := HNQ.out
          have hg9 := HNG.out
          go_wp2
          all_goals first | exact ⟨_, rfl, rfl, (by first | rfl | trivial)⟩ | rfl
        · intro ac wx hE hsz hdf h
          obtain rfl : vZ = wx := hE
          have e83 : ac.tmps[83]? = some (.bool b0) := el (h 83 (by decide +kernel))
          clear h hsz hdf
          go_wp2
          all_goals first | exact ⟨_, rfl, rfl, (by first | rfl | trivial)⟩ | rfl
        · intro ac wx hE hsz hdf h
          obtain rfl : vZ = wx := hE
          cases b0
          · have e6 : ac.tmps[6]? = some (.pointer (some ⟨gx, 0, none⟩)) := el0 (h 6 (by decide +kernel)) rfl
            have e84 : ac.tmps[84]? = some (.bool false) := el (h 84 (by decide +kernel))
            clear h hsz hdf
            go_wp2
            all_goals first | exact ⟨_, rfl, rfl, (by first | rfl | trivial)⟩ | rfl
          · have e6 : ac.tmps[6]? = some (.pointer (some ⟨gx, 0, none⟩)) := el0 (h 6 (by decide +kernel)) rfl
            have e84 : ac.tmps[84]? = some (.bool true) := el (h 84 (by decide +kernel))
            clear h hsz hdf
            go_wp2
            all_goals first | exact ⟨_, rfl, rfl, (by first | rfl | trivial)⟩ | rfl
        · intro ac wx hE hsz hdf h
          obtain rfl : vZ = wx := hE
          cases b0
          · have e85 : ac.tmps[85]? = some (.pointer (some ⟨gx, 1, none⟩)) := el (h 85 (by decide +kernel))
            have e84 : ac.tmps[84]? = some (.bool false) := el (h 84 (by decide +kernel))
            clear h hsz hdf
            obtain ⟨y0, y1, y2, y3⟩ := HCELL.out
            go_wp2
            all_goals first | exact ⟨_, rfl, rfl, (by first | rfl | trivial)⟩ | rfl
          · have e85 : ac.tmps[85]? = some (undef) := el (h 85 (by decide +kernel))
            have e84 : ac.tmps[84]? = some (.bool true) := el (h 84 (by decide +kernel))
            clear h hsz hdf
            go_wp2
            all_goals first | exact ⟨_, rfl, rfl, (by first | rfl | trivial)⟩ | rfl
        · intro ac wx hE hsz hdf h
          obtain rfl : vZ = wx := hE
          cases b0
          · have e86 : ac.tmps[86]? = some (.int .i64 X) := el (h 86 (by decide +kernel))
            have e84 : ac.tmps[84]? = some (.bool false) := el (h 84 (by decide +kernel))
            clear h hsz hdf
            go_wp2
            all_goals first | exact ⟨_, rfl, (by rw [← HQ1.out]; rfl), (by first | rfl | trivial)⟩ | (rw [← HQ1.out]; first | done | rfl)
          · have e86 : ac.tmps[86]? = some (undef) := el (h 86 (by decide +kernel))
            have e84 : ac.tmps[84]? = some (.bool true) := el (h 84 (by decide +kernel))
            clear h hsz hdf
            go_wp2
            all_goals first | exact ⟨_, rfl, rfl, (by first | rfl | trivial)⟩ | rfl
        · intro ac wx hE hsz hdf h
          obtain rfl : vZ = wx := hE
          cases b0
          · have e84 : ac.tmps[84]? = some (.bool false) := el (h 84 (by decide +kernel))
            have e87 : ac.tmps[87]? = some (.bool b1) := el (h 87 (by decide +kernel))
            clear h hsz hdf
            go_wp2
            all_goals first | exact ⟨_, rfl, (by rw [← HC1.out]; rfl), (by first | rfl | trivial)⟩ | (rw [← HC1.out]; first | done | rfl)
          · have e84 : ac.tmps[84]? = some (.bool true) := el (h 84 (by decide +kernel))
            have e87 : ac.tmps[87]? = some (undef) := el (h 87 (by decide +kernel))
            clear h hsz hdf
            go_wp2
            all_goals first | exact ⟨_, rfl, (by rw [← HC1.out]; rfl), (by first | rfl | trivial)⟩ | (rw [← HC1.out]; first | done | rfl)
        · intro ac wx hE hsz hdf h
          obtain rfl : vZ = wx := hE
          have e88 : ac.tmps[88]? = some (.bool c1) := el (h 88 (by decide +kernel))
          clear h hsz hdf
          go_wp2
          all_goals first | exact ⟨_, rfl, rfl, (by first | rfl | trivial)⟩ | rfl
        · intro ac wx hE hsz hdf h
          obtain rfl : vZ = wx := hE
          cases c1
          · have e6 : ac.tmps[6]? = some (.pointer (some ⟨gx, 0, none⟩)) := el0 (h 6 (by decide +kernel)) rfl
            have e89 : ac.tmps[89]? = some (.bool false) := el (h 89 (by decide +kernel))
            clear h hsz hdf
            go_wp2
            all_goals first | exact ⟨_, rfl, rfl, (by first | rfl | trivial)⟩ | rfl
          · have e6 : ac.tmps[6]? = some (.pointer (some ⟨gx, 0, none⟩)) := el0 (h 6 (by decide +kernel)) rfl
            have e89 : ac.tmps[89]? = some (.bool true) := el (h 89 (by decide +kernel))
            clear h hsz hdf
            go_wp2
            all_goals first | exact ⟨_, rfl, rfl, (by first | rfl | trivial)⟩ | rfl
        · intro ac wx hE hsz hdf h
          obtain rfl : vZ = wx := hE
          cases c1
          · have e90 : ac.tmps[90]? = some (.pointer (some ⟨gx, 1, none⟩)) := el (h 90 (by decide +kernel))
            have e89 : ac.tmps[89]? = some (.bool false) := el (h 89 (by decide +kernel))
            clear h hsz hdf
            obtain ⟨y0, y1, y2, y3⟩ := HCELL.out
            go_wp2
            all_goals first | exact ⟨_, rfl, rfl, (by first | rfl | trivial)⟩ | rfl
          · have e90 : ac.tmps[90]? = some (undef) := el (h 90 (by decide +kernel))
            have e89 : ac.tmps[89]? = some (.bool true) := el (h 89 (by decide +kernel))
            clear h hsz hdf
            go_wp2
            all_goals first | exact ⟨_, rfl, rfl, (by first | rfl | trivial)⟩ | rfl
        · intro ac wx hE hsz hdf h
          obtain rfl : vZ = wx := hE
          cases c1
          · have e0 : ac.tmps[0]? = some (.slice (some ⟨bA, oA, none⟩) N cc) := el0 (h 0 (by decide +kernel)) rfl
            have e89 : ac.tmps[89]? = some (.bool false) := el (h 89 (by decide +kernel))
            clear h hsz hdf
            go_wp2
            all_goals first | exact ⟨_, rfl, rfl, (by first | rfl | trivial)⟩ | rfl
          · have e0 : ac.tmps[0]? = some (.slice (some ⟨bA, oA, none⟩) N cc) := el0 (h 0 (by decide +kernel)) rfl
            have e89 : ac.tmps[89]? = some (.bool true) := el (h 89 (by decide +kernel))
            clear h hsz hdf
            go_wp2
            all_goals first | exact ⟨_, rfl, rfl, (by first | rfl | trivial)⟩ | rfl
        · intro ac wx hE hsz hdf h
          obtain rfl : vZ = wx := hE
          cases c1
          · have e92 : ac.tmps[92]? = some (.slice (some ⟨bA, oA, none⟩) N cc) := el (h 92 (by decide +kernel))
            have e89 : ac.tmps[89]? = some (.bool false) := el (h 89 (by decide +kernel))
            clear h hsz hdf
            go_wp2
            all_goals first | exact ⟨_, rfl, rfl, (by first | rfl | trivial)⟩ | rfl
          · have e92 : ac.tmps[92]? = some (undef) := el (h 92 (by decide +kernel))
            have e89 : ac.tmps[89]? = some (.bool true) := el (h 89 (by decide +kernel))
            clear h hsz hdf
            go_wp2
            all_goals first | exact ⟨_, rfl, rfl, (by first | rfl | trivial)⟩ | rfl
        · intro ac wx hE hsz hdf h
          obtain rfl : vZ = wx := hE
          cases c1
          · have e91 : ac.tmps[91]? = some (.int .i64 X) := el (h 91 (by decide +kernel))
            have e93 : ac.tmps[93]? = some (.int .i64 (N : Nat)) := el (h 93 (by decide +kernel))
            have e89 : ac.tmps[89]? = some (.bool false) := el (h 89 (by decide +kernel))
            clear h hsz hdf
            go_wp2
            all_goals first | exact ⟨_, rfl, (by rw [← HQ2.out]; rfl), (by first | rfl | trivial)⟩ | (rw [← HQ2.out]; first | done | rfl)
          · have e91 : ac.tmps[91]? = some (undef) := el (h 91 (by decide +kernel))
            have e93 : ac.tmps[93]? = some (undef) := el (h 93 (by decide +kernel))
            have e89 : ac.tmps[89]? = some (.bool true) := el (h 89 (by decide +kernel))
            clear h hsz hdf
            go_wp2
            all_goals first | exact ⟨_, rfl, rfl, (by first | rfl | trivial)⟩ | rfl
        · intro ac wx hE hsz hdf h
          obtain rfl : vZ = wx := hE
          cases c1
          · have e89 : ac.tmps[89]? = some (.bool false) := el (h 89 (by decide +kernel))
            have e94 : ac.tmps[94]? = some (.bool b2) := el (h 94 (by decide +kernel))
            clear h hsz hdf
            go_wp2
            all_goals first | exact ⟨_, rfl, (by rw [← HC2.out]; rfl), (by first | rfl | trivial)⟩ | (rw [← HC2.out]; first | done | rfl)
          · have e89 : ac.tmps[89]? = some (.bool true) := el (h 89 (by decide +kernel))
            have e94 : ac.tmps[94]? = some (undef) := el (h 94 (by decide +kernel))
            clear h hsz hdf
            go_wp2
            all_goals first | exact ⟨_, rfl, (by rw [← HC2.out]; rfl), (by first | rfl | trivial)⟩ | (rw [← HC2.out]; first | done | rfl)
        · intro ac wx hE hsz hdf h
          obtain rfl : vZ = wx := hE
          have e95 : ac.tmps[95]? = some (.bool c2) := el (h 95 (by decide +kernel))
          clear h hsz hdf
          go_wp2
          all_goals first | exact ⟨_, rfl, rfl, (by first | rfl | trivial)⟩ | rfl
        · intro ac wx hE hsz hdf h
          obtain rfl : vZ = wx := hE
          cases c2
          · have e6 : ac.tmps[6]? = some (.pointer (some ⟨gx, 0, none⟩)) := el0 (h 6 (by decide +kernel)) rfl
            have e96 : ac.tmps[96]? = some (.bool false) := el (h 96 (by decide +kernel))
            clear h hsz hdf
            go_wp2
            all_goals first | exact ⟨_, rfl, rfl, (by first | rfl | trivial)⟩ | rfl
          · have e6 : ac.tmps[6]? = some (.pointer (some ⟨gx, 0, none⟩)) := el0 (h 6 (by decide +kernel)) rfl
            have e96 : ac.tmps[96]? = some (.bool true) := el (h 96 (by decide +kernel))
            clear h hsz hdf
            go_wp2
            all_goals first | exact ⟨_, rfl, rfl, (by first | rfl | trivial)⟩ | rfl
        · intro ac wx hE hsz hdf h
          obtain rfl : vZ = wx := hE
          cases c2
          · have e97 : ac.tmps[97]? = some (.pointer (some ⟨gx, 2, none⟩)) := el (h 97 (by decide +kernel))
            have e96 : ac.tmps[96]? = some (.bool false) := el (h 96 (by decide +kernel))
            clear h hsz hdf
            obtain ⟨y0, y1, y2, y3⟩ := HCELL.out
            go_wp2
            all_goals first | exact ⟨_, rfl, rfl, (by first | rfl | trivial)⟩ | rfl
          · have e97 : ac.tmps[97]? = some (undef) := el (h 97 (by decide +kernel))
            have e96 : ac.tmps[96]? = some (.bool true) := el (h 96 (by decide +kernel))
            clear h hsz hdf
            go_wp2
            all_goals first | exact ⟨_, rfl, rfl, (by first | rfl | trivial)⟩ | rfl
        · intro ac wx hE hsz hdf h
          obtain rfl : vZ = wx := hE
          cases c2
          · have e98 : ac.tmps[98]? = some (.int .i64 Y) := el (h 98 (by decide +kernel))
            have e96 : ac.tmps[96]? = some (.bool false) := el (h 96 (by decide +kernel))
            clear h hsz hdf
            go_wp2
            all_goals first | exact ⟨_, rfl, (by rw [← HQ3.out]; rfl), (by first | rfl | trivial)⟩ | (rw [← HQ3.out]; first | done | rfl)
          · have e98 : ac.tmps[98]? = some (undef) := el (h 98 (by decide +kernel))
            have e96 : ac.tmps[96]? = some (.bool true) := el (h 96 (by decide +kernel))
            clear h hsz hdf
            go_wp2
            all_goals first | exact ⟨_, rfl, rfl, (by first | rfl | trivial)⟩ | rfl
        · intro ac wx hE hsz hdf h
          obtain rfl : vZ = wx := hE
          cases c2
          · have e96 : ac.tmps[96]? = some (.bool false) := el (h 96 (by decide +kernel))
            have e99 : ac.tmps[99]? = some (.bool b3) := el (h 99 (by decide +kernel))
            clear h hsz hdf
            go_wp2
            all_goals first | exact ⟨_, rfl, (by rw [← HC3.out]; rfl), (by first | rfl | trivial)⟩ | (rw [← HC3.out]; first | done | rfl)
          · have e96 : ac.tmps[96]? = some (.bool true) := el (h 96 (by decide +kernel))
            have e99 : ac.tmps[99]? = some (undef) := el (h 99 (by decide +kernel))
            clear h hsz hdf
            go_wp2
            all_goals first | exact ⟨_, rfl, (by rw [← HC3.out]; rfl), (by first | rfl | trivial)⟩ | (rw [← HC3.out]; first | done | rfl)
        · intro ac wx hE hsz hdf h
          obtain rfl : vZ = wx := hE
          have e100 : ac.tmps[100]? = some (.bool c3) := el (h 100 (by decide +kernel))
          clear h hsz hdf
          go_wp2
          all_goals first | exact ⟨_, rfl, rfl, (by first | rfl | trivial)⟩ | rfl
        · intro ac wx hE hsz hdf h
          obtain rfl : vZ = wx := hE
          cases c3
          · have e6 : ac.tmps[6]? = some (.pointer (some ⟨gx, 0, none⟩)) := el0 (h 6 (by decide +kernel)) rfl
            have e101 : ac.tmps[101]? = some (.bool false) := el (h 101 (by decide +kernel))
            clear h hsz hdf
            go_wp2
            all_goals first | exact ⟨_, rfl, rfl, (by first | rfl | trivial)⟩ | rfl
          · have e6 : ac.tmps[6]? = some (.pointer (some ⟨gx, 0, none⟩)) := el0 (h 6 (by decide +kernel)) rfl
            have e101 : ac.tmps[101]? = some (.bool true) := el (h 101 (by decide +kernel))
            clear h hsz hdf
            go_wp2
            all_goals first | exact ⟨_, rfl, rfl, (by first | rfl | trivial)⟩ | rfl
        · intro ac wx hE hsz hdf h
          obtain rfl : vZ = wx := hE
          cases c3
          · have e102 : ac.tmps[102]? = some (.pointer (some ⟨gx, 2, none⟩)) := el (h 102 (by decide +kernel))
            have e101 : ac.tmps[101]? = some (.bool false) := el (h 101 (by decide +kernel))
            clear h hsz hdf
            obtain ⟨y0, y1, y2, y3⟩ := HCELL.out
            go_wp2
            all_goals first | exact ⟨_, rfl, rfl, (by first | rfl | trivial)⟩ | rfl
          · have e102 : ac.tmps[102]? = some (undef) := el (h 102 (by decide +kernel))
            have e101 : ac.tmps[101]? = some (.bool true) := el (h 101 (by decide +kernel))
            clear h hsz hdf
            go_wp2
            all_goals first | exact ⟨_, rfl, rfl, (by first | rfl | trivial)⟩ | rfl
        · intro ac wx hE hsz hdf h
          obtain rfl : vZ = wx := hE
          cases c3
          · have e0 : ac.tmps[0]? = some (.slice (some ⟨bA, oA, none⟩) N cc) := el0 (h 0 (by decide +kernel)) rfl
            have e101 : ac.tmps[101]? = some (.bool false) := el (h 101 (by decide +kernel))
            clear h hsz hdf
            go_wp2
            all_goals first | exact ⟨_, rfl, rfl, (by first | rfl | trivial)⟩ | rfl
          · have e0 : ac.tmps[0]? = some (.slice (some ⟨bA, oA, none⟩) N cc) := el0 (h 0 (by decide +kernel)) rfl
            have e101 : ac.tmps[101]? = some (.bool true) := el (h 101 (by decide +kernel))
            clear h hsz hdf
            go_wp2
            all_goals first | exact ⟨_, rfl, rfl, (by first | rfl | trivial)⟩ | rfl
        · intro ac wx hE hsz hdf h
          obtain rfl : vZ = wx := hE
          cases c3
          · have e104 : ac.tmps[104]? = some (.slice (some ⟨bA, oA, none⟩) N cc) := el (h 104 (by decide +kernel))
            have e101 : ac.tmps[101]? = some (.bool false) := el (h 101 (by decide +kernel))
            clear h hsz hdf
            go_wp2
            all_goals first | exact ⟨_, rfl, rfl, (by first | rfl | trivial)⟩ | rfl
          · have e104 : ac.tmps[104]? = some (undef) := el (h 104 (by decide +kernel))
            have e101 : ac.tmps[101]? = some (.bool true) := el (h 101 (by decide +kernel))
            clear h hsz hdf
            go_wp2
            all_goals first | exact ⟨_, rfl, rfl, (by first | rfl | trivial)⟩ | rfl
        · intro ac wx hE hsz hdf h
          obtain rfl : vZ = wx := hE
          cases c3
          · have e103 : ac.tmps[103]? = some (.int .i64 Y) := el (h 103 (by decide +kernel))
            have e105 : ac.tmps[105]? = some (.int .i64 (N : Nat)) := el (h 105 (by decide +kernel))
            have e101 : ac.tmps[101]? = some (.bool false) := el (h 101 (by decide +kernel))
            clear h hsz hdf
            go_wp2
            all_goals first | exact ⟨_, rfl, (by rw [← HQ4.out]; rfl), (by first | rfl | trivial)⟩ | (rw [← HQ4.out]; first | done | rfl)
          · have e103 : ac.tmps[103]? = some (undef) := el (h 103 (by decide +kernel))
            have e105 : ac.tmps[105]? = some (undef) := el (h 105 (by decide +kernel))
            have e101 : ac.tmps[101]? = some (.bool true) := el (h 101 (by decide +kernel))
            clear h hsz hdf
            go_wp2
            all_goals first | exact ⟨_, rfl, rfl, (by first | rfl | trivial)⟩ | rfl
        · intro ac wx hE hsz hdf h
          obtain rfl : vZ = wx := hE
          cases c3
          · have e101 : ac.tmps[101]? = some (.bool false) := el (h 101 (by decide +kernel))
            have e106 : ac.tmps[106]? = some (.bool b4) := el (h 106 (by decide +kernel))
            clear h hsz hdf
            go_wp2
            all_goals first | exact ⟨_, rfl, (by rw [← HC4.out]; rfl), (by first | rfl | trivial)⟩ | (rw [← HC4.out]; first | done | rfl)
          · have e101 : ac.tmps[101]? = some (.bool true) := el (h 101 (by decide +kernel))
            have e106 : ac.tmps[106]? = some (undef) := el (h 106 (by decide +kernel))
            clear h hsz hdf
            go_wp2
            all_goals first | exact ⟨_, rfl, (by rw [← HC4.out]; rfl), (by first | rfl | trivial)⟩ | (rw [← HC4.out]; first | done | rfl)
        · intro ac wx hE hsz hdf h
          obtain rfl : vZ = wx := hE
          have e107 : ac.tmps[107]? = some (.bool c4) := el (h 107 (by decide +kernel))
          clear h hsz hdf
          go_wp2
          all_goals first | exact ⟨_, rfl, rfl, (by first | rfl | trivial)⟩ | rfl
        · intro ac wx hE hsz hdf h
          obtain rfl : vZ = wx := hE
          cases c4
          · have e6 : ac.tmps[6]? = some (.pointer (some ⟨gx, 0, none⟩)) := el0 (h 6 (by decide +kernel)) rfl
            have e108 : ac.tmps[108]? = some (.bool false) := el (h 108 (by decide +kernel))
            clear h hsz hdf
            go_wp2
            all_goals first | exact ⟨_, rfl, rfl, (by first | rfl | trivial)⟩ | rfl
          · have e6 : ac.tmps[6]? = some (.pointer (some ⟨gx, 0, none⟩)) := el0 (h 6 (by decide +kernel)) rfl
            have e108 : ac.tmps[108]? = some (.bool true) := el (h 108 (by decide +kernel))
            clear h hsz hdf
            go_wp2
            all_goals first | exact ⟨_, rfl, rfl, (by first | rfl | trivial)⟩ | rfl
        · intro ac wx hE hsz hdf h
          obtain rfl : vZ = wx := hE
          cases c4
          · have e109 : ac.tmps[109]? = some (.pointer (some ⟨gx, 0, none⟩)) := el (h 109 (by decide +kernel))
            have e108 : ac.tmps[108]? = some (.bool false) := el (h 108 (by decide +kernel))
            clear h hsz hdf
            obtain ⟨y0, y1, y2, y3⟩ := HCELL.out
            go_wp2
            all_goals first | exact ⟨_, rfl, rfl, (by first | rfl | trivial)⟩ | rfl
          · have e109 : ac.tmps[109]? = some (undef) := el (h 109 (by decide +kernel))
            have e108 : ac.tmps[108]? = some (.bool true) := el (h 108 (by decide +kernel))
            clear h hsz hdf
            go_wp2
            all_goals first | exact ⟨_, rfl, rfl, (by first | rfl | trivial)⟩ | rfl
        · intro ac wx hE hsz hdf h
          obtain rfl : vZ = wx := hE
          cases c4
          · have e110 : ac.tmps[110]? = some (.int .i64 o9) := el (h 110 (by decide +kernel))
            have e108 : ac.tmps[108]? = some (.bool false) := el (h 108 (by decide +kernel))
            clear h hsz hdf
            go_wp2
            all_goals first | exact ⟨_, rfl, rfl, (by first | rfl | trivial)⟩ | rfl
          · have e110 : ac.tmps[110]? = some (undef) := el (h 110 (by decide +kernel))
            have e108 : ac.tmps[108]? = some (.bool true) := el (h 108 (by decide +kernel))
            clear h hsz hdf
            go_wp2
            all_goals first | exact ⟨_, rfl, rfl, (by first | rfl | trivial)⟩ | rfl
        · intro ac wx hE hsz hdf h
          obtain rfl : vZ = wx := hE
          cases c4
          · have e111 : ac.tmps[111]? = some (.bool false) := el (h 111 (by decide +kernel))
            have e108 : ac.tmps[108]? = some (.bool false) := el (h 108 (by decide +kernel))
            clear h hsz hdf
            go_wp2
            all_goals first | exact ⟨_, rfl, rfl, (by first | rfl | trivial)⟩ | rfl
          · have e111 : ac.tmps[111]? = some (undef) := el (h 111 (by decide +kernel))
            have e108 : ac.tmps[108]? = some (.bool true) := el (h 108 (by decide +kernel))
            clear h hsz hdf
            go_wp2
            all_goals first | exact ⟨_, rfl, rfl, (by first | rfl | trivial)⟩ | rfl
        · intro ac wx hE hsz hdf h
          obtain rfl : vZ = wx := hE
          cases c4
          · have e6 : ac.tmps[6]? = some (.pointer (some ⟨gx, 0, none⟩)) := el0 (h 6 (by decide +kernel)) rfl
            have e112 : ac.tmps[112]? = some (.bool false) := el (h 112 (by decide +kernel))
            clear h hsz hdf
            go_wp2
            all_goals first | exact ⟨_, rfl, rfl, (by first | rfl | trivial)⟩ | rfl
          · have e6 : ac.tmps[6]? = some (.pointer (some ⟨gx, 0, none⟩)) := el0 (h 6 (by decide +kernel)) rfl
            have e112 : ac.tmps[112]? = some (undef) := el (h 112 (by decide +kernel))
            clear h hsz hdf
            refine wpList_skip rfl rfl e112 ?_
            all_goals first | exact ⟨_, rfl, rfl, (by first | rfl | trivial)⟩ | rfl
        · intro ac wx hE hsz hdf h
          obtain rfl : vZ = wx := hE
          cases c4
          · have e113 : ac.tmps[113]? = some (undef) := el (h 113 (by decide +kernel))
            have e112 : ac.tmps[112]? = some (.bool false) := el (h 112 (by decide +kernel))
            clear h hsz hdf
            go_wp2
            all_goals first | exact ⟨_, rfl, rfl, (by first | rfl | trivial)⟩ | rfl
          · have e113 : ac.tmps[113]? = some (undef) := el (h 113 (by decide +kernel))
            have e112 : ac.tmps[112]? = some (undef) := el (h 112 (by decide +kernel))
            clear h hsz hdf
            refine wpList_skip rfl rfl e112 ?_
            all_goals first | exact ⟨_, rfl, rfl, (by first | rfl | trivial)⟩ | rfl
        · intro ac wx hE hsz hdf h
          obtain rfl : vZ = wx := hE
          cases c4
          · have e114 : ac.tmps[114]? = some (undef) := el (h 114 (by decide +kernel))
            have e112 : ac.tmps[112]? = some (.bool false) := el (h 112 (by decide +kernel))
            clear h hsz hdf
            go_wp2
            all_goals first | exact ⟨_, rfl, rfl, (by first | rfl | trivial)⟩ | rfl
          · have e114 : ac.tmps[114]? = some (undef) := el (h 114 (by decide +kernel))
            have e112 : ac.tmps[112]? = some (undef) := el (h 112 (by decide +kernel))
            clear h hsz hdf
            refine wpList_skip rfl rfl e112 ?_
            all_goals first | exact ⟨_, rfl, rfl, (by first | rfl | trivial)⟩ | rfl
        · intro ac wx hE hsz hdf h
          obtain rfl : vZ = wx := hE
          cases c4
          · have e115 : ac.tmps[115]? = some (undef) := el (h 115 (by decide +kernel))
            have e112 : ac.tmps[112]? = some (.bool false) := el (h 112 (by decide +kernel))
            clear h hsz hdf
            go_wp2
            all_goals first | exact ⟨_, rfl, rfl, (by first | rfl | trivial)⟩ | rfl
          · have e115 : ac.tmps[115]? = some (undef) := el (h 115 (by decide +kernel))
            have e112 : ac.tmps[112]? = some (undef) := el (h 112 (by decide +kernel))
            clear h hsz hdf
            refine wpList_skip rfl rfl e112 ?_
            all_goals first | exact ⟨_, rfl, rfl, (by first | rfl | trivial)⟩ | rfl
        · intro ac wx hE hsz hdf h
          obtain rfl : vZ = wx := hE
          have e6 : ac.tmps[6]? = some (.pointer (some ⟨gx, 0, none⟩)) := el0 (h 6 (by decide +kernel)) rfl
          have e116 : ac.tmps[116]? = some (undef) := el (h 116 (by decide +kernel))
          clear h hsz hdf
          refine wpList_skip rfl rfl e116 ?_
          all_goals first | exact ⟨_, rfl, rfl, (by first | rfl | trivial)⟩ | rfl
        · intro ac wx hE hsz hdf h
          obtain rfl : vZ = wx := hE
          have e117 : ac.tmps[117]? = some (undef) := el (h 117 (by decide +kernel))
          have e116 : ac.tmps[116]? = some (undef) := el (h 116 (by decide +kernel))
          clear h hsz hdf
          refine wpList_skip rfl rfl e116 ?_
          all_goals first | exact ⟨_, rfl, rfl, (by first | rfl | trivial)⟩ | rfl
        · intro ac wx hE hsz hdf h
          obtain rfl : vZ = wx := hE
          have e1 : ac.tmps[1]? = some (.int .i64 (g : Nat)) := el0 (h 1 (by decide +kernel)) rfl
          have e116 : ac.tmps[116]? = some (undef) := el (h 116 (by decide +kernel))
          clear h hsz hdf
          refine wpList_skip rfl rfl e116 ?_
          all_goals first | exact ⟨_, rfl, rfl, (by first | rfl | trivial)⟩ | rfl
        · intro ac wx hE hsz hdf h
          obtain rfl : vZ = wx := hE
          have e119 : ac.tmps[119]? = some (undef) := el (h 119 (by decide +kernel))
          have e116 : ac.tmps[116]? = some (undef) := el (h 116 (by decide +kernel))
          clear h hsz hdf
          refine wpList_skip rfl rfl e116 ?_
          all_goals first | exact ⟨_, rfl, rfl, (by first | rfl | trivial)⟩ | rfl
        · intro ac wx hE hsz hdf h
          obtain rfl : vZ = wx := hE
          have e120 : ac.tmps[120]? = some (undef) := el (h 120 (by decide +kernel))
          have e116 : ac.tmps[116]? = some (undef) := el (h 116 (by decide +kernel))
          clear h hsz hdf
          refine wpList_skip rfl rfl e116 ?_
          all_goals first | exact ⟨_, rfl, rfl, (by first | rfl | trivial)⟩ | rfl
        · intro ac wx hE hsz hdf h
          obtain rfl : vZ = wx := hE
          have e118 : ac.tmps[118]? = some (undef) := el (h 118 (by decide +kernel))
          have e121 : ac.tmps[121]? = some (undef) := el (h 121 (by decide +kernel))
          have e116 : ac.tmps[116]? = some (undef) := el (h 116 (by decide +kernel))
          clear h hsz hdf
          refine wpList_skip rfl rfl e116 ?_
          all_goals first | exact ⟨_, rfl, rfl, (by first | rfl | trivial)⟩ | rfl
        · intro ac wx hE hsz hdf h
          obtain rfl : vZ = wx := hE
          cases c4
          · have e116 : ac.tmps[116]? = some (undef) := el (h 116 (by decide +kernel))
            have e122 : ac.tmps[122]? = some (undef) := el (h 122 (by decide +kernel))
            have e112 : ac.tmps[112]? = some (.bool false) := el (h 112 (by decide +kernel))
            clear h hsz hdf
            go_wp2
            all_goals first | exact ⟨_, rfl, rfl, (by first | rfl | trivial)⟩ | rfl
          · have e116 : ac.tmps[116]? = some (undef) := el (h 116 (by decide +kernel))
            have e122 : ac.tmps[122]? = some (undef) := el (h 122 (by decide +kernel))
            have e112 : ac.tmps[112]? = some (undef) := el (h 112 (by decide +kernel))
            clear h hsz hdf
            refine wpList_skip rfl rfl e112 ?_
            all_goals first | exact ⟨_, rfl, rfl, (by first | rfl | trivial)⟩ | rfl
        · intro ac wx hE hsz hdf h
          obtain rfl : vZ = wx := hE
          cases c4
          · have e112 : ac.tmps[112]? = some (.bool false) := el (h 112 (by decide +kernel))
            have e123 : ac.tmps[123]? = some (undef) := el (h 123 (by decide +kernel))
            have e108 : ac.tmps[108]? = some (.bool false) := el (h 108 (by decide +kernel))
            clear h hsz hdf
            go_wp2
            all_goals first | exact ⟨_, rfl, rfl, (by first | rfl | trivial)⟩ | rfl
          · have e112 : ac.tmps[112]? = some (undef) := el (h 112 (by decide +kernel))
            have e123 : ac.tmps[123]? = some (undef) := el (h 123 (by decide +kernel))
            have e108 : ac.tmps[108]? = some (.bool true) := el (h 108 (by decide +kernel))
            clear h hsz hdf
            go_wp2
            all_goals first | exact ⟨_, rfl, rfl, (by first | rfl | trivial)⟩ | rfl
        · intro ac wx hE hsz hdf h
          obtain rfl : vZ = wx := hE
          cases c4
          · have e108 : ac.tmps[108]? = some (.bool false) := el (h 108 (by decide +kernel))
            have e124 : ac.tmps[124]? = some (.bool false) := el (h 124 (by decide +kernel))
            clear h hsz hdf
            go_wp2
            all_goals first | exact ⟨_, rfl, rfl, (by first | rfl | trivial)⟩ | rfl
          · have e108 : ac.tmps[108]? = some (.bool true) := el (h 108 (by decide +kernel))
            have e124 : ac.tmps[124]? = some (undef) := el (h 124 (by decide +kernel))
            clear h hsz hdf
            go_wp2
            all_goals first | exact ⟨_, rfl, rfl, (by first | rfl | trivial)⟩ | rfl
        · intro ac w9 hE hsz hdf h hrest
          obtain ⟨v0, s0, g0⟩ := h 0 _ rfl
          have e0 := g0 81 rfl
          obtain rfl : v0 = VX := s0
          obtain ⟨v1, s1, g1⟩ := h 1 _ rfl
          have e1 := g1 82 rfl
          obtain rfl : v1 = VY := s1
          obtain ⟨v2, s2, g2⟩ := h 2 _ rfl
          have e2 := g2 83 rfl
          obtain rfl : v2 = .bool b0 := s2
          obtain ⟨v3, s3, g3⟩ := h 3 _ rfl
          have e3 := g3 84 rfl
          obtain rfl : v3 = .bool b0 := s3
          obtain ⟨v4, s4, g4⟩ := h 4 _ rfl
          have e4 := g4 85 rfl
          obtain rfl : v4 = sk b0 (.pointer (some ⟨gx, 1, none⟩)) := s4
          obtain ⟨v5, s5, g5⟩ := h 5 _ rfl
          have e5 := g5 86 rfl
          obtain rfl : v5 = sk b0 (.int .i64 X) := s5
          obtain ⟨v6, s6, g6⟩ := h 6 _ rfl
          have e6 := g6 87 rfl
          obtain rfl : v6 = sk b0 (.bool b1) := s6
          obtain ⟨v7, s7, g7⟩ := h 7 _ rfl
          have e7 := g7 88 rfl
          obtain rfl : v7 = .bool c1 := s7
          obtain ⟨v8, s8, g8⟩ := h 8 _ rfl
          have e8 := g8 89 rfl
          obtain rfl : v8 = .bool c1 := s8
          obtain ⟨v9, s9, g9⟩ := h 9 _ rfl
          have e9 := g9 90 rfl
          obtain rfl : v9 = sk c1 (.pointer (some ⟨gx, 1, none⟩)) := s9
          obtain ⟨v10, s10, g10⟩ := h 10 _ rfl
          have e10 := g10 91 rfl
          obtain rfl : v10 = sk c1 (.int .i64 X) := s10
          obtain ⟨v11, s11, g11⟩ := h 11 _ rfl
          have e11 := g11 92 rfl
          obtain rfl : v11 = sk c1 (.slice (some ⟨bA, oA, none⟩) N cc) := s11
          obtain ⟨v12, s12, g12⟩ := h 12 _ rfl
          have e12 := g12 93 rfl
          obtain rfl : v12 = sk c1 (.int .i64 (N : Nat)) := s12
          obtain ⟨v13, s13, g13⟩ := h 13 _ rfl
          have e13 := g13 94 rfl
          obtain rfl : v13 = sk c1 (.bool b2) := s13
          obtain ⟨v14, s14, g14⟩ := h 14 _ rfl
          have e14 := g14 95 rfl
          obtain rfl : v14 = .bool c2 := s14
          obtain ⟨v15, s15, g15⟩ := h 15 _ rfl
          have e15 := g15 96 rfl
          obtain rfl : v15 = .bool c2 := s15
          obtain ⟨v16, s16, g16⟩ := h 16 _ rfl
          have e16 := g16 97 rfl
          obtain rfl : v16 = sk c2 (.pointer (some ⟨gx, 2, none⟩)) := s16
          obtain ⟨v17, s17, g17⟩ := h 17 _ rfl
          have e17 := g17 98 rfl
          obtain rfl : v17 = sk c2 (.int .i64 Y) := s17
          obtain ⟨v18, s18, g18⟩ := h 18 _ rfl
          have e18 := g18 99 rfl
          obtain rfl : v18 = sk c2 (.bool b3) := s18
          obtain ⟨v19, s19, g19⟩ := h 19 _ rfl
          have e19 := g19 100 rfl
          obtain rfl : v19 = .bool c3 := s19
          obtain ⟨v20, s20, g20⟩ := h 20 _ rfl
          have e20 := g20 101 rfl
          obtain rfl : v20 = .bool c3 := s20
          obtain ⟨v21, s21, g21⟩ := h 21 _ rfl
          have e21 := g21 102 rfl
          obtain rfl : v21 = sk c3 (.pointer (some ⟨gx, 2, none⟩)) := s21
          obtain ⟨v22, s22, g22⟩ := h 22 _ rfl
          have e22 := g22 103 rfl
          obtain rfl : v22 = sk c3 (.int .i64 Y) := s22
          obtain ⟨v23, s23, g23⟩ := h 23 _ rfl
          have e23 := g23 104 rfl
          obtain rfl : v23 = sk c3 (.slice (some ⟨bA, oA, none⟩) N cc) := s23
          obtain ⟨v24, s24, g24⟩ := h 24 _ rfl
          have e24 := g24 105 rfl
          obtain rfl : v24 = sk c3 (.int .i64 (N : Nat)) := s24
          obtain ⟨v25, s25, g25⟩ := h 25 _ rfl
          have e25 := g25 106 rfl
          obtain rfl : v25 = sk c3 (.bool b4) := s25
          obtain ⟨v26, s26, g26⟩ := h 26 _ rfl
          have e26 := g26 107 rfl
          obtain rfl : v26 = .bool c4 := s26
          obtain ⟨v27, s27, g27⟩ := h 27 _ rfl
          have e27 := g27 108 rfl
          obtain rfl : v27 = .bool c4 := s27
          obtain ⟨v28, s28, g28⟩ := h 28 _ rfl
          have e28 := g28 109 rfl
          obtain rfl : v28 = sk c4 (.pointer (some ⟨gx, 0, none⟩)) := s28
          obtain ⟨v29, s29, g29⟩ := h 29 _ rfl
          have e29 := g29 110 rfl
          obtain rfl : v29 = sk c4 (.int .i64 o9) := s29
          obtain ⟨v30, s30, g30⟩ := h 30 _ rfl
          have e30 := g30 111 rfl
          obtain rfl : v30 = sk c4 (.bool false) := s30
          obtain ⟨v31, s31, g31⟩ := h 31 _ rfl
          have e31 := g31 112 rfl
          obtain rfl : v31 = sk c4 (.bool false) := s31
          obtain ⟨v32, s32, g32⟩ := h 32 _ rfl
          have e32 := g32 113 rfl
          obtain rfl : v32 = undef := s32
          obtain ⟨v33, s33, g33⟩ := h 33 _ rfl
          have e33 := g33 114 rfl
          obtain rfl : v33 = undef := s33
          obtain ⟨v34, s34, g34⟩ := h 34 _ rfl
          have e34 := g34 115 rfl
          obtain rfl : v34 = undef := s34
          obtain ⟨v35, s35, g35⟩ := h 35 _ rfl
          have e35 := g35 116 rfl
          obtain rfl : v35 = undef := s35
          obtain ⟨v36, s36, g36⟩ := h 36 _ rfl
          have e36 := g36 117 rfl
          obtain rfl : v36 = undef := s36
          obtain ⟨v37, s37, g37⟩ := h 37 _ rfl
          have e37 := g37 118 rfl
          obtain rfl : v37 = undef := s37
          obtain ⟨v38, s38, g38⟩ := h 38 _ rfl
          have e38 := g38 119 rfl
          obtain rfl : v38 = undef := s38
          obtain ⟨v39, s39, g39⟩ := h 39 _ rfl
          have e39 := g39 120 rfl
          obtain rfl : v39 = undef := s39
          obtain ⟨v40, s40, g40⟩ := h 40 _ rfl
          have e40 := g40 121 rfl
          obtain rfl : v40 = undef := s40
          obtain ⟨v41, s41, g41⟩ := h 41 _ rfl
          have e41 := g41 122 rfl
          obtain rfl : v41 = undef := s41
          obtain ⟨v42, s42, g42⟩ := h 42 _ rfl
          have e42 := g42 123 rfl
          obtain rfl : v42 = undef := s42
          obtain ⟨v43, s43, g43⟩ := h 43 _ rfl
          have e43 := g43 124 rfl
          obtain rfl : v43 = sk c4 (.bool false) := s43
          obtain ⟨v44, s44, g44⟩ := h 44 _ rfl
          have e44 := g44 125 rfl
          obtain rfl : v44 = .bool c4 := s44
          have ha := act_of [(81, v0), (82, v1), (83, .bool b0), (84, .bool b0), (85, sk b0 (.pointer (some ⟨gx, 1, none⟩))), (86, sk b0 (.int .i64 X)), (87, sk b0 (.bool b1)), (88, .bool c1), (89, .bool c1), (90, sk c1 (.pointer (some ⟨gx, 1, none⟩))), (91, sk c1 (.int .i64 X)), (92, sk c1 (.slice (some ⟨bA, oA, none⟩) N cc)), (93, sk c1 (.int .i64 (N : Nat))), (94, sk c1 (.bool b2)), (95, .bool c2), (96, .bool c2), (97, sk c2 (.pointer (some ⟨gx, 2, none⟩))), (98, sk c2 (.int .i64 Y)), (99, sk c2 (.bool b3)), (100, .bool c3), (101, .bool c3), (102, sk c3 (.pointer (some ⟨gx, 2, none⟩))), (103, sk c3 (.int .i64 Y)), (104, sk c3 (.slice (some ⟨bA, oA, none⟩) N cc)), (105, sk c3 (.int .i64 (N : Nat))), (106, sk c3 (.bool b4)), (107, .bool c4), (108, .bool c4), (109, sk c4 (.pointer (some ⟨gx, 0, none⟩))), (110, sk c4 (.int .i64 o9)), (111, sk c4 (.bool false)), (112, sk c4 (.bool false)), (113, undef), (114, undef), (115, undef), (116, undef), (117, undef), (118, undef), (119, undef), (120, undef), (121, undef), (122, undef), (123, undef), (124, sk c4 (.bool false)), (125, .bool c4)] rfl hsz hdf (by intro p hp; simp only [List.mem_cons, List.not_mem_nil, or_false] at hp; rcases hp with rfl | rfl | rfl | rfl | rfl | rfl | rfl | rfl | rfl | rfl | rfl | rfl | rfl | rfl | rfl | rfl | rfl | rfl | rfl | rfl | rfl | rfl | rfl | rfl | rfl | rfl | rfl | rfl | rfl | rfl | rfl | rfl | rfl | rfl | rfl | rfl | rfl | rfl | rfl | rfl | rfl | rfl | rfl | rfl | rfl <;> first | exact e0 | exact e1 | exact e2 | exact e3 | exact e4 | exact e5 | exact e6 | exact e7 | exact e8 | exact e9 | exact e10 | exact e11 | exact e12 | exact e13 | exact e14 | exact e15 | exact e16 | exact e17 | exact e18 | exact e19 | exact e20 | exact e21 | exact e22 | exact e23 | exact e24 | exact e25 | exact e26 | exact e27 | exact e28 | exact e29 | exact e30 | exact e31 | exact e32 | exact e33 | exact e34 | exact e35 | exact e36 | exact e37 | exact e38 | exact e39 | exact e40 | exact e41 | exact e42 | exact e43 | exact e44) hrest
          clear h hrest hsz hdf e0 e1 e2 e3 e4 e5 e6 e7 e8 e9 e10 e11 e12 e13 e14 e15 e16 e17 e18 e19 e20 e21 e22 e23 e24 e25 e26 e27 e28 e29 e30 e31 e32 e33 e34 e35 e36 e37 e38 e39 e40 e41 e42 e43 e44 g0 g1 g2 g3 g4 g5 g6 g7 g8 g9 g10 g11 g12 g13 g14 g15 g16 g17 g18 g19 g20 g21 g22 g23 g24 g25 g26 g27 g28 g29 g30 g31 g32 g33 g34 g35 g36 g37 g38 g39 g40 g41 g42 g43 g44
          subst ha
          simp only [List.foldl_cons, List.foldl_nil, Act.put, List.setIfInBounds_toArray, List.set_cons_succ, List.set_cons_zero]
          obtain rfl : vZ = w9 := hE
          cases c4
          · have HPS := Lib.hid (HPASS.out HZ.out)
            clear HFAIL HPASS
            go_wp2
            go_roundg (N - (j + 1))
            case measure => have := HLT.out; omega
            case rel => exact ⟨j + 1, by have := HLT.out; omega, rfl, by go_num, HPS, HEX.out⟩
          · obtain rfl : V = false := HFAIL.out HZ.out
            clear HFAIL HPASS
            go_wp2
            go_ret
            exact ⟨rfl, HEX.out⟩
end Go.Proofs.YtdhmfgaiomfodaaDoor
