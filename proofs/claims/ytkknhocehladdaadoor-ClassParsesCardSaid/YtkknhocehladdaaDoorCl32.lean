/- Escapes and signs, as the document reads them. -/
import Derived.Test.YtkknhocehladdaaDoorCl30
namespace Go.Proofs.YtkknhocehladdaaDoor
open Go Go.RowKit

set_option maxHeartbeats 4000000 in
set_option maxRecDepth 20000 in
theorem refEscape (l : List UInt8) (hlen : l.length ≤ 10000) (w : World) :
    Calls Tryd.prog 26 #[.string ⟨l.toArray⟩] w fun e w' => e = .returned (sgB (escS l)) ∧ Ext w w' := by
  have hS0 := BB.zero (w := w) rfl
  have hx0 := Ext.new1 w (.cells Tryd.zeroCells28 28)
  have HS0 := Lib.hid hS0
  have HX0 := Lib.hid hx0
  clear hS0 hx0
  rcases l with _ | ⟨a, r⟩
  focus
    go_enter Tryd.func26, Tryd.ntmps26
    go_wp2_with (refine store_set rfl (.tmp 2) (.tmp 21) rfl (g := w.heap.size) (q := fun _ => false) rfl (by rw [← zero28]; rfl) HS0.out ?_)
    exact bodyPost_ret (v := .tuple #[bp (fun _ => false), .bool false, .int .i64 0, .int .i64 3]) (results_bp4 rfl rfl (HS0.out.row _) rfl rfl rfl) rfl ⟨by rfl, HX0.out.row _ _ (Nat.le_refl _)⟩
  by_cases ha : a.toNat = 92
  · rcases r with _ | ⟨c, r⟩
    focus
      have HR := Lib.hid (show escS [a] = .bad 3 by unfold escS; simp [ha])
      have haa : ((a.toNat : Int) == 92) = true := by simp [ha]
      have HA := Lib.hid ha
      clear ha
      go_enter Tryd.func26, Tryd.ntmps26
      go_wp2_with (refine store_set rfl (.tmp 2) (.tmp 21) rfl (g := w.heap.size) (q := fun _ => false) rfl (by rw [← zero28]; rfl) HS0.out ?_)
      exact bodyPost_ret (v := .tuple #[bp (fun _ => false), .bool false, .int .i64 0, .int .i64 3]) (results_bp4 rfl rfl (HS0.out.row _) rfl rfl rfl) rfl ⟨by rw [HR.out]; rfl, HX0.out.row _ _ (Nat.le_refl _)⟩
    obtain rfl : a = 92 := UInt8.toNat_inj.1 ha
    exact refEscape2 c r hlen w
  · have HR := Lib.hid (show escS (a :: r) = .bad 5 by unfold escS; simp [ha])
    have haa : ((a.toNat : Int) == 92) = false := by simp; omega
    have hn0 : ((r.length : Int) + 1 == 0) = false := by simp; omega
    clear ha
    go_enter Tryd.func26, Tryd.ntmps26
    go_wp2_with (refine store_set rfl (.tmp 2) (.tmp 25) rfl (g := w.heap.size) (q := fun _ => false) rfl (by rw [← zero28]; rfl) HS0.out ?_)
    exact bodyPost_ret (v := .tuple #[bp (fun _ => false), .bool false, .int .i64 0, .int .i64 5]) (results_bp4 rfl rfl (HS0.out.row _) rfl rfl rfl) rfl ⟨by rw [HR.out]; rfl, HX0.out.row _ _ (Nat.le_refl _)⟩

set_option maxHeartbeats 4000000 in
set_option maxRecDepth 20000 in
theorem refSgn (l : List UInt8) (hlen : l.length ≤ 10000) (w : World) :
    Calls Tryd.prog 37 #[.string ⟨l.toArray⟩] w fun e w' => e = .returned (sgB (signS l)) ∧ Ext w w' := by
  have hS0 := BB.zero (w := w) rfl
  have hx0 := Ext.new1 w (.cells Tryd.zeroCells28 28)
  have HS0 := Lib.hid hS0
  have HX0 := Lib.hid hx0
  clear hS0 hx0
  rcases l with _ | ⟨a, r⟩
  focus
    go_enter Tryd.func37, Tryd.ntmps37
    go_wp2_with (refine store_set rfl (.tmp 2) (.tmp 9) rfl (g := w.heap.size) (q := fun _ => false) rfl (by rw [← zero28]; rfl) HS0.out ?_)
    exact bodyPost_ret (v := .tuple #[bp (fun _ => false), .bool false, .int .i64 0, .int .i64 3]) (results_bp4 rfl rfl (HS0.out.row _) rfl rfl rfl) rfl ⟨by rfl, HX0.out.row _ _ (Nat.le_refl _)⟩
  have hn0 : ((r.length : Int) + 1 == 0) = false := by simp; omega
  by_cases h93 : a.toNat = 93
  focus
    have HR := Lib.hid (show signS (a :: r) = .bad 5 by unfold signS; simp [h93])
    have haa : ((a.toNat : Int) == 93) = true := by simp [h93]
    have HA := Lib.hid h93
    clear h93
    go_enter Tryd.func37, Tryd.ntmps37
    go_wp2_with (refine store_set rfl (.tmp 2) (.tmp 18) rfl (g := w.heap.size) (q := fun _ => false) rfl (by rw [← zero28]; rfl) HS0.out ?_)
    exact bodyPost_ret (v := .tuple #[bp (fun _ => false), .bool false, .int .i64 0, .int .i64 5]) (results_bp4 rfl rfl (HS0.out.row _) rfl rfl rfl) rfl ⟨by rw [HR.out]; rfl, HX0.out.row _ _ (Nat.le_refl _)⟩
  have d93 : ((a.toNat : Int) == 93) = false := by simp; omega
  by_cases h45 : a.toNat = 45
  focus
    have HR := Lib.hid (show signS (a :: r) = .bad 5 by unfold signS; simp [h45])
    have haa : ((a.toNat : Int) == 45) = true := by simp [h45]
    have HA := Lib.hid h45
    clear h45 h93
    go_enter Tryd.func37, Tryd.ntmps37
    go_wp2_with (refine store_set rfl (.tmp 2) (.tmp 18) rfl (g := w.heap.size) (q := fun _ => false) rfl (by rw [← zero28]; rfl) HS0.out ?_)
    exact bodyPost_ret (v := .tuple #[bp (fun _ => false), .bool false, .int .i64 0, .int .i64 5]) (results_bp4 rfl rfl (HS0.out.row _) rfl rfl rfl) rfl ⟨by rw [HR.out]; rfl, HX0.out.row _ _ (Nat.le_refl _)⟩
  have d45 : ((a.toNat : Int) == 45) = false := by simp; omega
  by_cases h92 : a.toNat = 92
  focus
    have HR := Lib.hid (show signS (a :: r) = escS (a :: r) by unfold signS; simp [h92])
    have haa : ((a.toNat : Int) == 92) = true := by simp [h92]
    have HA := Lib.hid h92
    have HL := Lib.hid hlen
    clear h45 h93 h92 hlen
    go_enter Tryd.func37, Tryd.ntmps37
    go_wp2_with (first
      | (go_at_call 26; refine (refEscape (a :: r) HL.out _).mono ?_; rintro e w1 ⟨rfl, hx1⟩; unfold sgB bp)
      | (refine store_set rfl (.tmp 2) (.tmp 24) rfl (g := w.heap.size) rfl rfl (HS0.out.keep hx1) ?_))
    exact bodyPost_ret (v := sgB (escS (a :: r))) (results_bp4 rfl rfl ((HS0.out.keep hx1).row _) rfl rfl rfl) rfl ⟨by rw [HR.out], (Ext.trans HX0.out hx1).row _ _ (Nat.le_refl _)⟩
  have d92 : ((a.toNat : Int) == 92) = false := by simp; omega
  have HR := Lib.hid (show signS (a :: r) = .byte a.toNat 1 by unfold signS; simp [h92, h93, h45])
  clear h45 h93 h92
  go_enter Tryd.func37, Tryd.ntmps37
  go_wp2_with (first
      | (go_at_call 40; refine (refInS [a] (isM a.toNat) (by simp) (in_isM a) _).mono ?_; rintro e w1 ⟨rfl, hx1⟩; unfold bp)
      | (refine store_set rfl (.tmp 2) (.tmp 30) rfl (g := w.heap.size) rfl rfl (HS0.out.keep hx1) ?_))
  exact bodyPost_ret (v := .tuple #[bp (isM a.toNat), .bool true, .int .i64 1, .int .i64 0]) (results_bp4 rfl rfl ((HS0.out.keep hx1).row _) rfl rfl rfl) rfl ⟨by rw [HR.out]; rfl, (Ext.trans HX0.out hx1).row _ _ (Nat.le_refl _)⟩
end Go.Proofs.YtkknhocehladdaaDoor
