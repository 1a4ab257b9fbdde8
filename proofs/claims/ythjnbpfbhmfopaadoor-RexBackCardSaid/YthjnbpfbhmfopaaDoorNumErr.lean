/- truchmannum.Num: the number of an error. -/
import Derived.Test.YthjnbpfbhmfopaaDoorIs
import Derived.Stop.IfaceNil
import Derived.LaidLaws
namespace Go.Proofs.YthjnbpfbhmfopaaDoor
open Go Go.RowKit Go.ChangeShapes

/-- The sixteen errors' variables, in the order of their numbers. -/
def errGs : List Nat := [2, 3, 4, 0, 1, 5, 6, 7, 8, 9, 10, 11, 12, 13, 14, 15]
/-- The sixteen errors, no two alike, at the addresses E. -/
structure Errs (W : World) (E : Nat → Addr) : Prop where
  sent : ∀ i g, errGs[i]? = some g → Sent W 142 g (E i)
  ne : ∀ i j, i < j → j < 16 → E i ≠ E j
theorem Errs.keep {W W' : World} {E : Nat → Addr} (h : Errs W E) (hb : Ext W W') : Errs W' E := ⟨fun i g hg => (h.sent i g hg).keep hb (Nat.le_refl _), h.ne⟩
theorem starS : "*" ++ "errors.errorString" = "*errors.errorString" := by decide
theorem nameOne (u : TypeId) (h : Tryd.prog.typeName? 3 u = some "*errors.errorString") : u = 142 :=
  typeName_ptr_named (nm := "errors.errorString") (by rw [starS]; kernel_rfl) (by kernel_rfl) (by decide) u (by rw [starS]; exact h)
theorem errs_of {W : World} (L : List (String × List UInt8)) (gs : List Nat) (h : laidMet Tryd.prog (L.map fun x => (x.1, .iface "*errors.errorString" (.ptr (.agg [.lit (.string x.2)])))) W)
    (hg : L.map (fun x => Tryd.prog.globalNamed x.1) = gs.map some) (ht : ∀ g ∈ gs, (Tryd.prog.globals[g]?).map (·.type) = some 30) (hgs : gs = errGs) : ∃ E, Errs W E := by
  subst hgs
  obtain ⟨ads, h1, h2, h3⟩ := laid_sents Tryd.underlying30 nameOne Tryd.underlying142 Tryd.underlying165 rfl rfl Tryd.underlying9 (by kernel_rfl) (by kernel_rfl) L errGs h hg ht
  have h16 : ads.length = 16 := h1
  refine ⟨fun i => ads.getD i ⟨0, 0, none⟩, fun i g hg => ?_, fun i j hij hj => ?_⟩
  · have hi : i < ads.length := by have := (List.getElem?_eq_some_iff.1 hg).1; rw [h1]; exact this
    have e : ads[i]? = some (ads.getD i ⟨0, 0, none⟩) := by simp [List.getD, hi]
    exact h3 i g _ hg e
  · have hi' : i < ads.length := by omega
    have hj' : j < ads.length := by omega
    simp only [List.getD, List.getElem?_eq_getElem hi', List.getElem?_eq_getElem hj', Option.getD_some]
    intro e
    exact absurd (List.getElem_inj h2 |>.1 e) (by omega)

def errV (E : Nat → Addr) (i : Nat) : Value := .iface 142 (.pointer (some (E i)))
theorem Errs.cell {W : World} {E : Nat → Addr} (h : Errs W E) {i g : Nat} (hg : errGs[i]? = some g) : W.cell? ⟨g, 0, none⟩ = some (errV E i) := (h.sent i g hg).var

set_option maxHeartbeats 1000000 in
set_option maxRecDepth 20000 in
theorem numAll (E : Nat → Addr) (w : World) (h : Errs w E) :
    Calls Tryd.prog 41 #[] w fun e w' => e = .returned (.slice (some ⟨w.heap.size, 0, none⟩) 16 16) ∧ Blk w' w.heap.size 30 ((List.range 16).map (errV E)) ∧ Ext w w' := by
  have g0 := h.cell (i := 0) rfl
  have g1 := h.cell (i := 1) rfl
  have g2 := h.cell (i := 2) rfl
  have g3 := h.cell (i := 3) rfl
  have g4 := h.cell (i := 4) rfl
  have g5 := h.cell (i := 5) rfl
  have g6 := h.cell (i := 6) rfl
  have g7 := h.cell (i := 7) rfl
  have g8 := h.cell (i := 8) rfl
  have g9 := h.cell (i := 9) rfl
  have g10 := h.cell (i := 10) rfl
  have g11 := h.cell (i := 11) rfl
  have g12 := h.cell (i := 12) rfl
  have g13 := h.cell (i := 13) rfl
  have g14 := h.cell (i := 14) rfl
  have g15 := h.cell (i := 15) rfl
  unfold errV at *
  go_enter Tryd.func41, Tryd.ntmps41
  go_wp2
  go_ret
  exact ⟨rfl, Blk.newL w 30 [errV E 0, errV E 1, errV E 2, errV E 3, errV E 4, errV E 5, errV E 6, errV E 7, errV E 8, errV E 9, errV E 10, errV E 11, errV E 12, errV E 13, errV E 14, errV E 15], (Below.refl _ _).alloc (Nat.le_refl _) _⟩

set_option maxHeartbeats 400000 in
theorem numNil (w : World) : Calls Tryd.prog 23 #[.nilIface] w fun e w' => e = .returned (.int .i64 0) ∧ w = w' := by
  go_enter Tryd.func23, Tryd.ntmps23
  go_wp2
  go_ret
  exact ⟨rfl, rfl⟩

set_option maxHeartbeats 1000000 in
set_option maxRecDepth 20000 in
theorem numErr (E : Nat → Addr) (i : Nat) (w : World) (h : Errs w E) (hi : i < 16) :
    Calls Tryd.prog 23 #[errV E i] w fun e w' => e = .returned (.int .i64 ((i : Int) + 1)) ∧ Ext w w' := by
  unfold errV
  go_enter Tryd.func23, Tryd.ntmps23
  have hn := fun w => run_eql_iface_nil (P := Tryd.prog) (w := w) 30 (by kernel_rfl) 142 (.pointer (some (E i)))
  go_wp2_with (go_at_call 41; refine (numAll E _ h).mono ?_; rintro e w1 ⟨rfl, hB, hb1⟩)
  have he1 := h.keep hb1
  have hi15 : (i : Int) < 16 := by omega
  go_loopw [9] (fun v wr => ∃ k : Nat, k ≤ i ∧ v = .int .i64 k ∧ wr = w1) (fun v _ => 16 - (intOf v).toNat)
  case atStart => exact ⟨0, Nat.zero_le _, rfl, rfl⟩
  case round =>
    obtain ⟨k, hk, rfl, hwr⟩ := hrel
    subst hwr
    have hc : wr.cell? ⟨w.heap.size, k, none⟩ = some (.iface 142 (.pointer (some (E k)))) := by
      rw [hB.cell]; simp [errV, show k < 16 by omega]
    have hk16 : (k : Int) < 16 := by omega
    by_cases hki : k = i
    · subst hki
      go_wp2_with (go_at_call 42; refine (is_same _ _).mono ?_; rintro e w2 ⟨rfl, rfl⟩)
      go_ret
      exact ⟨rfl, hb1⟩
    · obtain ⟨g1, hg1⟩ : ∃ g, errGs[k]? = some g := ⟨_, List.getElem?_eq_getElem (show k < errGs.length by show k < 16; omega)⟩
      obtain ⟨g2, hg2⟩ : ∃ g, errGs[i]? = some g := ⟨_, List.getElem?_eq_getElem (show i < errGs.length by show i < 16; omega)⟩
      obtain ⟨ca, ta, hA⟩ := (he1.sent k g1 hg1).blk
      obtain ⟨cb, tb, hBk⟩ := (he1.sent i g2 hg2).blk
      have hne := he1.ne k i (by omega) hi
      have HNE := Lib.hid hne
      have HA := Lib.hid hA
      have HBK := Lib.hid hBk
      have hkl : k + 1 ≤ i := by omega
      clear hne hA hBk hg1 hg2 hki
      go_wp2_with (go_at_call 42; refine (is_other _ _ _ _ _ _ _ (Ne.symm HNE.out) HBK.out HA.out).mono ?_; rintro e w2 ⟨rfl, rfl⟩)
      go_roundw
      case rel => exact ⟨k + 1, hkl, by go_num, trivial⟩
      case measure => simp [intOf]; omega
end Go.Proofs.YthjnbpfbhmfopaaDoor
