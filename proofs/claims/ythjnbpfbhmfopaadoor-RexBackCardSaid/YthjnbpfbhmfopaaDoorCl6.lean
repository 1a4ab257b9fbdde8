/- The document's sets: 256 answers by value. -/
import Derived.Test.YthjnbpfbhmfopaaDoorCl5
import Derived.Deep.WholeRow
namespace Go.Proofs.YthjnbpfbhmfopaaDoor
open Go Go.RowKit

def bcs (p : Nat → Bool) : Array Value := Array.ofFn (n := 256) fun i => .bool (p i)
theorem bcs_size (p : Nat → Bool) : (bcs p).size = 256 := by simp [bcs]
theorem bcs_get (p : Nat → Bool) {j : Nat} (h : j < 256) : (bcs p)[j]? = some (.bool (p j)) := by simp [bcs, h]
theorem bcs_out (p : Nat → Bool) {j : Nat} (h : ¬ j < 256) : (bcs p)[j]? = none := by simp [bcs]; omega
theorem bcs_set (p : Nat → Bool) (i : Nat) (b : Bool) : (bcs p).setIfInBounds i (.bool b) = bcs (fun j => if j = i then b else p j) := by
  apply Array.ext_getElem?
  intro j
  rw [Array.getElem?_setIfInBounds]
  by_cases hj : j < 256
  · rw [bcs_get _ hj, bcs_get _ hj, bcs_size]
    by_cases h : i = j
    · subst h
      simp [hj]
    · have h' : ¬ j = i := fun e => h e.symm
      simp [h, h']
  · rw [bcs_out _ hj, bcs_out _ hj, bcs_size]
    by_cases h : i = j
    · subst h
      simp [hj]
    · simp [h]
theorem bcs_congr {p q : Nat → Bool} (h : ∀ c, c < 256 → p c = q c) : bcs p = bcs q := by
  unfold bcs
  congr 1
  funext i
  rw [h i.1 i.2]
theorem bcs_inj {p q : Nat → Bool} (h : bcs p = bcs q) : ∀ c, c < 256 → p c = q c := fun c hc => by
  have h1 := bcs_get p hc
  rw [h, bcs_get q hc] at h1
  simpa using h1.symm
theorem bcs_one (p : Nat → Bool) : (bcs p).all (·.oneCell') = true := by
  rw [Array.all_eq_true]
  intro i hi
  simp [bcs, Value.oneCell']
attribute [irreducible] bcs
def bp (p : Nat → Bool) : Value := .agg (bcs p)

theorem zero28 : Tryd.zeroCells37 = bcs (fun _ => false) := by unfold bcs; kernel_rfl
theorem set_size : (Tryd.prog.info? 37).map (·.size) = some 256 := by kernel_rfl
/-- Block g holds a set of the document's. -/
def BB (w : World) (g : Nat) (p : Nat → Bool) : Prop := w.heap[g]? = some (.cells (bcs p) 37 (0, 0))
theorem BB.blk {w : World} {g : Nat} {p : Nat → Bool} (h : BB w g p) : Blk w g 37 (bcs p).toList := h
theorem BB.of {w : World} {g : Nat} {p : Nat → Bool} (h : Blk w g 37 (bcs p).toList) : BB w g p := h
theorem BB.cell {w : World} {g : Nat} {p : Nat → Bool} (h : BB w g p) {j : Nat} (hj : j < 256) : w.cell? ⟨g, j, none⟩ = some (.bool (p j)) := by
  rw [h.blk.cell, Array.getElem?_toList, bcs_get p hj]
theorem BB.frozen {w : World} {g : Nat} {p : Nat → Bool} (h : BB w g p) (j : Nat) : w.frozen? ⟨g, j, none⟩ = false := h.blk.frozen j
theorem BB.lt {w : World} {g : Nat} {p : Nat → Bool} (h : BB w g p) : g < w.heap.size := h.blk.lt
theorem BB.keep {w w' : World} {g : Nat} {p : Nat → Bool} (h : BB w g p) (hx : Ext w w') : BB w' g p := h.blk.keep hx
theorem BB.alloc {w : World} {g : Nat} {p : Nat → Bool} (h : BB w g p) (o : Obj) : BB (w.alloc o) g p := h.blk.alloc o
theorem BB.far {w : World} {g : Nat} {p : Nat → Bool} (h : BB w g p) {a : Addr} (ha : g ≠ a.block) (u : Value) : BB (w.setCell a u) g p := h.blk.far ha u
theorem BB.set_ {w : World} {g : Nat} {p : Nat → Bool} (h : BB w g p) (i : Nat) (b : Bool) : BB (w.setCell ⟨g, i, none⟩ (.bool b)) g (fun j => if j = i then b else p j) := by
  have := h.blk.set_ i (.bool b)
  unfold Blk at this
  unfold BB
  rw [← bcs_set, this, ← Array.toList_setIfInBounds, Array.toArray_toList]
theorem BB.new {w : World} {g : Nat} (h : w.heap.size = g) (p : Nat → Bool) : BB (w.alloc (.cells (bcs p) 37)) g p := by
  subst h
  exact heap_alloc_new w _
theorem BB.zero {w : World} {g : Nat} (h : w.heap.size = g) : BB (w.alloc (.cells Tryd.zeroCells37 37)) g (fun _ => false) := by
  rw [zero28]
  exact BB.new h _
theorem BB.congr {w : World} {g : Nat} {p q : Nat → Bool} (h : BB w g p) (e : ∀ c, c < 256 → p c = q c) : BB w g q := by
  unfold BB at *
  rw [h, bcs_congr e]
theorem BB.row {w : World} {g : Nat} {p : Nat → Bool} (h : BB w g p) (q : Nat → Bool) : BB (w.setRow g (bcs q)) g q := setRow_heap w g _ _ _ _ h
theorem BB.rowFar {w : World} {g k : Nat} {p : Nat → Bool} (h : BB w k p) (q : Nat → Bool) (hk : k ≠ g) : BB (w.setRow g (bcs q)) k p := (setRow_other w g k _ hk).trans h
theorem Ext.row {w w' : World} (h : Ext w w') (g : Nat) (cs : Array Value) (hg : w.heap.size ≤ g) : Ext w (w'.setRow g cs) :=
  ⟨h.os, h.tape, h.output, by rw [setRow_size]; exact h.size, fun k hk => (setRow_other w' g k cs (by omega)).trans (h.block k hk)⟩
/-- A set loaded whole, and stored whole. -/
theorem load_set {w : World} {ops : Array Oper} {rest : List Oper} {o : Oper} {a : Act} {Q : Exit → Act → World → Prop} (hgd : o.guard = none) (x : Operand) (ho : o.op = .load 37 x)
    {g : Nat} {p : Nat → Bool} (hx : a.eval x = .pointer (some ⟨g, 0, none⟩)) (hg : BB w g p) (h : wpList Tryd.prog ops Q rest (a.put o.dst (.agg (bcs p))) w) : wpList Tryd.prog ops Q (o :: rest) a w :=
  wpList_load_row hgd _ x ho g hx _ (bcs p) _ _ hg Tryd.underlying37 rfl (by rw [bcs_size]; exact set_size) h
theorem store_set {w : World} {ops : Array Oper} {rest : List Oper} {o : Oper} {a : Act} {Q : Exit → Act → World → Prop} (hgd : o.guard = none) (x y : Operand) (ho : o.op = .store 37 x y)
    {g : Nat} {p q : Nat → Bool} (hx : a.eval x = .pointer (some ⟨g, 0, none⟩)) (hy : a.eval y = .agg (bcs q)) (hg : BB w g p) (h : wpList Tryd.prog ops Q rest (a.put o.dst undef) (w.setRow g (bcs q))) : wpList Tryd.prog ops Q (o :: rest) a w :=
  wpList_store_row hgd _ x y ho g (bcs q) hx hy _ (bcs p) hg (by rw [bcs_size]; exact set_size) (by rw [bcs_size, bcs_size]) (bcs_one q) h
theorem results_set {fn : Func} {p : Tmp} (h : fn.results = #[.cell p 37]) (tmps : Array Value) (w : World) (g : Nat) (q : Nat → Bool)
    (hp : tmps.getD p undef = .pointer (some ⟨g, 0, none⟩)) (hg : BB w g q) : (results fn tmps).run Tryd.prog w = .ok (bp q) w :=
  results_cell_row h tmps w g _ (bcs q) _ _ hp hg Tryd.underlying37 rfl (by rw [bcs_size]; exact set_size)

set_option maxHeartbeats 1000000 in
set_option maxRecDepth 20000 in
theorem refNot (p : Nat → Bool) (w : World) :
    Calls Tryd.prog 54 #[bp p] w fun e w' => e = .returned (bp fun j => !p j) ∧ Ext w w' := by
  unfold bp
  go_enter Tryd.func54, Tryd.ntmps54
  go_wp2
  go_loopw [4] (fun iv wr => ∃ i : Nat, i ≤ 256 ∧ iv = .int .i64 i ∧ BB wr w.heap.size (fun j => if j < i then !p j else p j) ∧ BB wr (w.heap.size + 1) (fun _ => false) ∧ Ext w wr) (fun iv _ => 256 - (intOf iv).toNat)
  case atStart => exact ⟨0, by omega, rfl, ((BB.new rfl p).alloc _).congr (fun c hc => by simp), BB.zero (by simp), by (first | exact Ext.refl _ | (unfold Ext; repeat (first | exact Below.refl _ _ | assumption | refine Below.alloc ?_ (by first | (simp; done) | (simp; omega) | omega) _ | refine Below.setCell ?_ (by first | (simp; done) | (simp; omega) | omega) _ | refine Below.drew ?_)))⟩
  case round =>
    obtain ⟨i, hi, rfl, hB, hD, hx⟩ := hrel
    by_cases hlt : i < 256
    · have b0 := hB.cell hlt
      have f0 := hB.frozen i
      have hlt' : (i : Int) < 256 := by omega
      simp only [Nat.lt_irrefl, if_false] at b0
      have HB := Lib.hid hB
      have HD := Lib.hid hD
      clear hB hD
      go_wp2
      go_roundw
      case rel => exact ⟨i + 1, by omega, by go_num, (HB.out.set_ i (!p i)).congr (fun c hc => by by_cases h : c = i <;> by_cases h2 : c < i <;> simp [h, h2] <;> omega), HD.out.far (by simp) _, by (first | exact Ext.refl _ | (unfold Ext; repeat (first | exact Below.refl _ _ | assumption | refine Below.alloc ?_ (by first | (simp; done) | (simp; omega) | omega) _ | refine Below.setCell ?_ (by first | (simp; done) | (simp; omega) | omega) _ | refine Below.drew ?_)))⟩
      case measure => simp [intOf]; omega
    · obtain rfl : i = 256 := by omega
      have HB := hB.congr (q := fun j => !p j) (fun c hc => by simp [hc])
      clear hB
      go_wp2_with (first | (refine load_set rfl (.tmp 1) rfl (g := w.heap.size) rfl HB ?_) | (refine store_set rfl (.tmp 2) (.tmp 14) rfl (g := w.heap.size + 1) rfl rfl hD ?_))
      exact bodyPost_ret (v := bp fun j => !p j) (results_set rfl _ _ (w.heap.size + 1) _ (by simp [Act.put]) (hD.row _)) rfl ⟨rfl, hx.row _ _ (by omega)⟩
end Go.Proofs.YthjnbpfbhmfopaaDoor
