/- Put together: Sm22, Sm23, Sm24, Sm25, Sm26. -/
import Derived.Test.YtdhmfgaiomfodaaDoorUNsF
import Derived.Test.YtdhmfgaiomfodaaDoorUNsA
import Derived.Test.YtdhmfgaiomfodaaDoorUTgS
import Derived.Test.YtdhmfgaiomfodaaDoorUNsE
import Derived.Deep.LoopGhost
import Derived.Deep.DeepCutAuto
import Derived.Test.YtdhmfgaiomfodaaDoorUNsD
import Derived.BigQuiet
import Derived.BigRegion
namespace Go.Proofs.YtdhmfgaiomfodaaDoor
open Go Go.RowKit

abbrev D2 := Nat → Nat → Bool
section
variable {c : List Ins} {txt : List UInt8} {base : Int}
end
end Go.Proofs.YtdhmfgaiomfodaaDoor
namespace Go.Proofs.YtdhmfgaiomfodaaDoor
open Go Go.RowKit
attribute [local irreducible] wd

def diC (i : Ins) : List Value := [.int .i64 i.op, .int .i64 i.x, .int .i64 i.y, .int .i64 i.n] ++ (bcs i.set).toList
theorem di_len (i : Ins) : (diC i).length = 260 := by
  unfold diC
  have := bcs_size i.set
  simp only [List.length_append, List.length_cons, List.length_nil, Array.length_toList]
  omega
theorem di_0 (i : Ins) : (diC i)[0]? = some (.int .i64 i.op) := rfl
theorem di_1 (i : Ins) : (diC i)[1]? = some (.int .i64 i.x) := rfl
theorem di_2 (i : Ins) : (diC i)[2]? = some (.int .i64 i.y) := rfl
theorem di_3 (i : Ins) : (diC i)[3]? = some (.int .i64 i.n) := rfl
theorem di_set (i : Ins) {j : Nat} (hj : j < 256) : (diC i)[4 + j]? = some (.bool (i.set j)) := by
  unfold diC
  have hs := bcs_size i.set
  have h1 := bcs_get i.set hj
  rw [List.getElem?_append_right (by simp)]
  simp only [List.length_cons, List.length_nil]
  rw [show 4 + j - (0 + 1 + 1 + 1 + 1) = j by omega, Array.getElem?_toList, h1]
theorem di_at (i : Ins) (j : Nat) : (diC i)[j]? = if j = 0 then some (.int .i64 i.op) else if j = 1 then some (.int .i64 i.x) else if j = 2 then some (.int .i64 i.y) else if j = 3 then some (.int .i64 i.n) else if j < 260 then some (.bool (i.set (j - 4))) else none := by
  by_cases h0 : j = 0
  · subst h0; rfl
  rw [if_neg h0]
  by_cases h1 : j = 1
  · subst h1; rfl
  rw [if_neg h1]
  by_cases h2 : j = 2
  · subst h2; rfl
  rw [if_neg h2]
  by_cases h3 : j = 3
  · subst h3; rfl
  rw [if_neg h3]
  by_cases h4 : j < 260
  · rw [if_pos h4]
    have := di_set i (j := j - 4) (by omega)
    rw [show 4 + (j - 4) = j by omega] at this
    exact this
  rw [if_neg h4, List.getElem?_eq_none (by rw [di_len]; omega)]
theorem di_one (i : Ins) : (diC i).all (·.oneCell') = true := by
  unfold diC
  have h : (bcs i.set).toList.all (·.oneCell') = true := by rw [Array.all_toList]; exact bcs_one i.set
  rw [List.all_append, h]
  rfl
theorem di_size : (Tryd.prog.info? 47).map (·.size) = some 260 := by kernel_rfl
theorem di_zsize : Tryd.zeroCells47.size = 260 := by kernel_rfl
theorem di_zero : Tryd.zeroCells47 = (diC ⟨0, 0, 0, 0, fun _ => false⟩).toArray := by
  unfold diC bcs
  kernel_rfl
attribute [irreducible] diC

def IB (w : World) (g : Nat) (i : Ins) : Prop := Blk w g 47 (diC i)
section
variable {w w' : World} {g : Nat} {i : Ins}
theorem IB.keep (h : IB w g i) (hx : Ext w w') : IB w' g i := Blk.keep h hx
theorem IB.lt (h : IB w g i) : g < w.heap.size := Blk.lt h
theorem IB.op (h : IB w g i) : w.cell? ⟨g, 0, none⟩ = some (.int .i64 i.op) := (Blk.cell h 0).trans (di_0 _)
theorem IB.x (h : IB w g i) : w.cell? ⟨g, 1, none⟩ = some (.int .i64 i.x) := (Blk.cell h 1).trans (di_1 _)
theorem IB.y (h : IB w g i) : w.cell? ⟨g, 2, none⟩ = some (.int .i64 i.y) := (Blk.cell h 2).trans (di_2 _)
theorem IB.n (h : IB w g i) : w.cell? ⟨g, 3, none⟩ = some (.int .i64 i.n) := (Blk.cell h 3).trans (di_3 _)
theorem IB.set (h : IB w g i) {j : Nat} (hj : j < 256) : w.cell? ⟨g, 4 + j, none⟩ = some (.bool (i.set j)) := (Blk.cell h (4 + j)).trans (di_set _ hj)
end
section
variable {w : World} {ops : Array Oper} {rest : List Oper} {o : Oper} {a : Act} {Q : Exit → Act → World → Prop}
theorem load_di (hgd : o.guard = none) (x : Operand) (ho : o.op = .load 47 x)
    {b q : Nat} {i : Ins} (hx : a.eval x = .pointer (some ⟨b, q, none⟩)) (hg : w.rangeAt b q (diC i))
    (h : wpList Tryd.prog ops Q rest (a.put o.dst (.agg (diC i).toArray)) w) : wpList Tryd.prog ops Q (o :: rest) a w :=
  wpList_load_mid hgd _ x ho b q hx _ _ hg Tryd.underlying47 rfl (by rw [di_len]; exact di_size) h
theorem store_di_new {w : World} (hgd : o.guard = none) (x y : Operand) (ho : o.op = .store 47 x y) {zc : Array Value}
    {i : Ins} (hx : a.eval x = .pointer (some ⟨w.heap.size, 0, none⟩)) (hy : a.eval y = .agg (diC i).toArray) (hl : zc.size = 260)
    (h : wpList Tryd.prog ops Q rest (a.put o.dst undef) (w.alloc (.cells (diC i).toArray 47))) : wpList Tryd.prog ops Q (o :: rest) a (w.alloc (.cells zc 47)) := by
  refine wpList_store_row hgd _ x y ho w.heap.size _ hx hy _ zc (heap_alloc_last w _) (by simp only [List.size_toArray, di_len]; exact di_size) (by simp only [List.size_toArray, di_len, hl]) (by rw [List.all_toArray]; exact di_one _) ?_
  rw [World.setRow_alloc_new]
  exact h
end
theorem di_built (parts : List (Nat × Value)) : Tryd.prog.built 47 parts = Instr.fill (#[(0, 1), (1, 1), (2, 1), (3, 1), (4, 256)][·]?) Tryd.zeroCells47 parts := by kernel_rfl
theorem built_di (i : Ins) : Tryd.prog.built 47 [(0, .int .i64 i.op), (1, .int .i64 i.x), (2, .int .i64 i.y), (3, .int .i64 i.n), (4, bp i.set)] = some (diC i).toArray := by
  rw [di_built, di_zero]
  have hs : (diC ⟨0, 0, 0, 0, fun _ => false⟩).toArray.size = 260 := by rw [List.size_toArray, di_len]
  obtain ⟨c1, e1, s1, g1⟩ := fill_step (#[(0, 1), (1, 1), (2, 1), (3, 1), (4, 256)][·]?) (diC ⟨0, 0, 0, 0, fun _ => false⟩).toArray 0 0 1 (.int .i64 i.op) [(1, .int .i64 i.x), (2, .int .i64 i.y), (3, .int .i64 i.n), (4, bp i.set)] rfl rfl (by omega)
  obtain ⟨c2, e2, s2, g2⟩ := fill_step (#[(0, 1), (1, 1), (2, 1), (3, 1), (4, 256)][·]?) c1 1 1 1 (.int .i64 i.x) [(2, .int .i64 i.y), (3, .int .i64 i.n), (4, bp i.set)] rfl rfl (by omega)
  obtain ⟨c3, e3, s3, g3⟩ := fill_step (#[(0, 1), (1, 1), (2, 1), (3, 1), (4, 256)][·]?) c2 2 2 1 (.int .i64 i.y) [(3, .int .i64 i.n), (4, bp i.set)] rfl rfl (by omega)
  obtain ⟨c4, e4, s4, g4⟩ := fill_step (#[(0, 1), (1, 1), (2, 1), (3, 1), (4, 256)][·]?) c3 3 3 1 (.int .i64 i.n) [(4, bp i.set)] rfl rfl (by omega)
  obtain ⟨c5, e5, s5, g5⟩ := fill_step (#[(0, 1), (1, 1), (2, 1), (3, 1), (4, 256)][·]?) c4 4 4 256 (bp i.set) [] rfl (bcs_size i.set) (by omega)
  rw [e1, e2, e3, e4, e5]
  show some c5 = _
  congr 1
  apply Array.ext_getElem?
  intro j
  have e0 : (diC ⟨0, 0, 0, 0, fun _ => false⟩).toArray[j]? = _ := (List.getElem?_toArray).trans (di_at _ j)
  have e9 : (diC i).toArray[j]? = _ := (List.getElem?_toArray).trans (di_at i j)
  rw [g5, g4, g3, g2, g1, e0, e9]
  have hb : ∀ n, (bp i.set).cells[n]? = if n < 256 then some (.bool (i.set n)) else none := fun n => by
    show (bcs i.set)[n]? = _
    by_cases h : n < 256
    · rw [bcs_get i.set h, if_pos h]
    · rw [bcs_out i.set h, if_neg h]
  rw [hb]
  by_cases h0 : j = 0
  · subst h0; rfl
  by_cases h1 : j = 1
  · subst h1; rfl
  by_cases h2 : j = 2
  · subst h2; rfl
  by_cases h3 : j = 3
  · subst h3; rfl
  by_cases h4 : j < 260
  · rw [if_pos ⟨by omega, by omega⟩, if_pos (by omega), if_neg h0, if_neg h1, if_neg h2, if_neg h3, if_pos h4]
  · rw [if_neg (by omega), if_neg (by omega), if_neg (by omega), if_neg (by omega), if_neg (by omega)]
    dsimp only
    rw [if_neg h0, if_neg h1, if_neg h2, if_neg h3, if_neg h4, if_neg h0, if_neg h1, if_neg h2, if_neg h3, if_neg h4]
theorem build_di {w : World} {ops : Array Oper} {rest : List Oper} {o : Oper} {a : Act} {Q : Exit → Act → World → Prop} (hg : o.guard = none) (x0 x1 x2 x3 x4 : Operand) (ho : o.op = .build 47 #[(0, x0), (1, x1), (2, x2), (3, x3), (4, x4)])
    {i : Ins} (h0 : a.eval x0 = .int .i64 i.op) (h1 : a.eval x1 = .int .i64 i.x) (h2 : a.eval x2 = .int .i64 i.y) (h3 : a.eval x3 = .int .i64 i.n) (h4 : a.eval x4 = bp i.set)
    (h : wpList Tryd.prog ops Q rest (a.put o.dst (.agg (diC i).toArray)) w) : wpList Tryd.prog ops Q (o :: rest) a w := by
  have e : (Array.map (fun (y : Nat × Operand) => (y.1, a.eval y.2)) #[(0, x0), (1, x1), (2, x2), (3, x3), (4, x4)]).toList = [(0, .int .i64 i.op), (1, .int .i64 i.x), (2, .int .i64 i.y), (3, .int .i64 i.n), (4, bp i.set)] := by simp [h0, h1, h2, h3, h4]
  refine wpList_build hg _ _ ho (by rw [e, built_di]; rfl) ?_
  rw [e, built_di]
  exact h
theorem mk_di {w : World} {ops : Array Oper} {rest : List Oper} {o : Oper} {a : Act} {Q : Exit → Act → World → Prop} (hg : o.guard = none) (x : Operand) (ho : o.op = .buildSlice 41 1 #[(0, x)]) {v : List Value} (hl : v.length = 260) (hx : a.eval x = .agg v.toArray)
    (h : wpList Tryd.prog ops Q rest (a.put o.dst (.slice (some ⟨w.heap.size, 0, none⟩) 1 1)) (w.alloc (.cells v.toArray 47))) : wpList Tryd.prog ops Q (o :: rest) a w := by
  cases hie : Tryd.prog.info? 47 with
  | none => have := di_size; rw [hie] at this; cases this
  | some ie =>
    have hsz := di_size
    rw [hie] at hsz
    simp only [Option.map_some, Option.some.injEq] at hsz
    have hz : ((Tryd.prog.info? 47).bind (·.zero)).isSome = true := by kernel_rfl
    rw [hie] at hz
    simp only [Option.bind_some] at hz
    obtain ⟨z, hzz⟩ := Option.isSome_iff_exists.1 hz
    refine wpList_buildSlice hg _ 47 1 #[(0, x)] ho v.toArray ie z Tryd.underlying41 hie hzz (by rw [hsz]; omega) (by rw [hsz]; omega) ?_ h
    have := Great.fill_whole (s := 260) (by omega) [.agg v.toArray] ((Array.range (1 * ie.size)).map (z.cells[· % z.cells.size]!)) (fun u hu => by simp at hu; subst hu; show v.toArray.size = 260; rw [List.size_toArray, hl]) (by rw [Array.size_map, Array.size_range, hsz]; rfl)
    rw [hsz] at this ⊢
    have e3 : (Array.map (fun (y : Nat × Operand) => (y.1, a.eval y.2)) #[(0, x)]).toList = [(0, Value.agg v.toArray)] := by simp [hx]
    rw [e3]
    have e : ([Value.agg v.toArray].flatMap fun v => v.cells.toList) = v := by simp [Value.cells]
    rw [e] at this
    exact this
theorem elemDi : Elem Tryd.prog 41 47 (.agg Tryd.zeroCells47) 260 288 := ⟨Tryd.underlying41, by kernel_rfl, by show Tryd.zeroCells47.size = 260; exact di_zsize, by omega⟩

def codeD (c : List Ins) : List Value := c.flatMap diC
theorem codeD_len (c : List Ins) : (codeD c).length = c.length * 260 := by
  unfold codeD
  induction c with
  | nil => rfl
  | cons i c ih => rw [List.flatMap_cons, List.length_append, ih, di_len, List.length_cons]; omega
theorem codeD_get {c : List Ins} {pc : Nat} {i : Ins} (hi : c[pc]? = some i) {j : Nat} (hj : j < 260) : (codeD c)[pc * 260 + j]? = (diC i)[j]? := by
  have e3 : c = c.take pc ++ i :: c.drop (pc + 1) := by
    obtain ⟨_, rfl⟩ := List.getElem?_eq_some_iff.1 hi
    simp
  have hlt := (List.getElem?_eq_some_iff.1 hi).1
  have hl : (codeD (c.take pc)).length = pc * 260 := by rw [codeD_len, List.length_take, Nat.min_eq_left (by omega)]
  have e4 : codeD c = codeD (c.take pc) ++ (diC i ++ codeD (c.drop (pc + 1))) := by
    conv => lhs; rw [e3]
    unfold codeD
    rw [List.flatMap_append, List.flatMap_cons]
  rw [e4, List.getElem?_append_right (by omega), hl, show pc * 260 + j - pc * 260 = j by omega, List.getElem?_append_left (by rw [di_len]; exact hj)]
theorem codeD_at {w : World} {A : Option Addr} {c : List Ins} (h : Rd w 260 A c.length (codeD c)) {pc : Nat} {i : Ins} (hi : c[pc]? = some i) : ∃ b o, A = some ⟨b, o, none⟩ ∧ b < w.heap.size ∧ w.rangeAt b (o + pc * 260) (diC i) := by
  have hlt := (List.getElem?_eq_some_iff.1 hi).1
  obtain ⟨b, o, e, hb, hc⟩ := h.2 (by rw [codeD_len]; omega)
  refine ⟨b, o, e, hb, fun j u hu => ?_⟩
  have hj : j < 260 := by have := (List.getElem?_eq_some_iff.1 hu).1; rwa [di_len] at this
  rw [show o + pc * 260 + j = o + (pc * 260 + j) by omega]
  exact hc _ _ (by rw [codeD_get hi hj]; exact hu)
end Go.Proofs.YtdhmfgaiomfodaaDoor
namespace Go.Proofs.YtdhmfgaiomfodaaDoor
open Go Go.RowKit
attribute [local irreducible] wd

def OfR (w0 : World) (N : Nat) (c : List Ins) (e : Ending) (w' : World) : Prop := ∃ B c2, e = .returned (.slice B N c2) ∧ Rd w' 260 B N (codeD c) ∧ Ext w0 w'
def OfRA (w0 : World) (N : Nat) (c : List Ins) (e : Ending) (w' : World) : Prop := ∃ B c2, e = .returned (.slice B N c2) ∧ Rd w' 260 B N (codeD c) ∧ Ext w0 w' ∧ ∀ b o x, B = some ⟨b, o, x⟩ → w0.heap.size ≤ b
def OneI (b : Nat) (i : Ins) (v : Value) (w : World) : Prop := ∃ vb : Nat, v = .slice (some ⟨vb, 0, none⟩) 1 1 ∧ Blk w vb 47 (diC i) ∧ b ≤ vb
def OutI (B1 : Nat) (c : List Ins) (j : Nat) (v : Value) (w : World) : Prop := ∃ A9 c9, v = .slice A9 (j + 1) c9 ∧ w.ownsRow B1 47 260 v (j + 1) (codeD (c.take (j + 1)))
theorem di_ones (i : Ins) : ∀ u ∈ diC i, u.oneCell' = true := by
  have := di_one i
  rw [List.all_eq_true] at this
  exact this
theorem codeD_snoc {c : List Ins} {j : Nat} {i : Ins} (h : c[j]? = some i) : codeD (c.take (j + 1)) = codeD (c.take j) ++ diC i := by
  rw [List.take_add_one, h]
  unfold codeD
  rw [List.flatMap_append]
  simp
theorem rd_di {w : World} {g : Nat} {i : Ins} (h : Blk w g 47 (diC i)) : Rd w 260 (some ⟨g, 0, none⟩) 1 (diC i) := by
  have := Blk.rd (n := 1) (size := 260) h 0 (by rw [di_len]; omega)
  rw [List.drop_zero, List.take_of_length_le (by rw [di_len]; omega)] at this
  exact this
set_option maxHeartbeats 8000000 in
set_option maxRecDepth 20000 in
theorem law25OfAt (c : List Ins) (A : Option Addr) (cc : Nat) (N : Nat) (hN : c.length = N) (hN5 : N ≤ 100000) (w0 : World) (hR : Rd w0 8 A N (codeV c)) :
    Calls Tryd.prog 19 #[.slice A N cc] w0 fun e w' => OfRA w0 N c e w' := by
  have HR := Lib.hid hR
  clear hR
  go_enter Tryd.func19, Tryd.ntmps19
  go_upto_region 2 with fail
  have hown0 := own_empty w0 47 260
  have hx0 := Ext.new1 w0 (.cells #[] 47)
  obtain ⟨B1, hB1⟩ : ∃ B1, w0.heap.size = B1 := ⟨_, rfl⟩
  have HB1 := Lib.hid hB1
  rw [hB1] at hown0
  rw [hB1]
  have HO0 := Lib.hid hown0
  have HX0 := Lib.hid hx0
  clear hown0 hx0 hB1
  generalize w0.alloc (.cells #[] 47) = wa at *
  go_wp2
  go_loopg [3, 9] N (fun g ov iv wr => ∃ j : Nat, j ≤ N ∧ g = N - j ∧ iv = .int .i64 (j : Nat) ∧ wr.ownsRow B1 47 260 ov j (codeD (c.take j)) ∧ Ext w0 wr)
  case atStart => exact ⟨0, by omega, rfl, rfl, HO0.out, HX0.out⟩
  case round =>
    obtain ⟨jq, hj4, rfl, rfl, hown, hx⟩ := hrel
    by_cases hlt : jq < N
    · obtain ⟨xi, hxi⟩ : ∃ xi, c[jq]? = some xi := ⟨_, List.getElem?_eq_getElem (show jq < c.length from hN ▸ hlt)⟩
      obtain ⟨bA, oA, rfl, hcell⟩ := code_cellsN (c := c) (by rw [hN]; exact HR.out.keep hx) hxi
      have c0 : wr.cell? ⟨bA, oA + jq * 8, none⟩ = some (.int .i64 xi.op) := hcell 0 _ rfl
      have c1 : wr.cell? ⟨bA, oA + jq * 8 + 1, none⟩ = some (.int .i64 xi.x) := hcell 1 _ rfl
      have c2 : wr.cell? ⟨bA, oA + jq * 8 + 2, none⟩ = some (.int .i64 xi.y) := hcell 2 _ rfl
      have c3 : wr.cell? ⟨bA, oA + jq * 8 + 3, none⟩ = some (.int .i64 xi.n) := hcell 3 _ rfl
      have c4 : wr.cell? ⟨bA, oA + jq * 8 + 4, none⟩ = some (.int .u64 (wd xi.set 0 : Nat)) := hcell 4 _ rfl
      have c5 : wr.cell? ⟨bA, oA + jq * 8 + 5, none⟩ = some (.int .u64 (wd xi.set 1 : Nat)) := hcell 5 _ rfl
      have c6 : wr.cell? ⟨bA, oA + jq * 8 + 6, none⟩ = some (.int .u64 (wd xi.set 2 : Nat)) := hcell 6 _ rfl
      have c7 : wr.cell? ⟨bA, oA + jq * 8 + 7, none⟩ = some (.int .u64 (wd xi.set 3 : Nat)) := hcell 7 _ rfl
      have hlt' : (jq : Int) < (N : Int) := by omega
      have hw2 : IntKind.i64.wrap ((jq : Int) + 1) = (jq : Int) + 1 := wrap_id (by omega) (by omega)
      have HW2 := Lib.hid hw2
      have HTK := Lib.hid (codeD_snoc hxi)
      have HLT := Lib.hid (And.intro hlt hN5)
      have HOWN := Lib.hid hown
      have HXR := Lib.hid hx
      obtain ⟨A', c', rfl, _, _, _⟩ := own_rd hown
      clear hcell hxi hlt hown hx hj4 hw2
      go_upto_region 5 with fail
      have hal := Ext.new1 wr (.cells (insV xi).toArray 64)
      obtain ⟨gx, hgx⟩ : ∃ gx, wr.heap.size = gx := ⟨_, rfl⟩
      have HXI := Lib.hid (Blk.newA (w := wr) hgx 64 (insV xi))
      have HOW := Lib.hid (own_ext HOWN.out hal)
      have HXB := Lib.hid (Ext.trans HXR.out hal)
      have HGX := Lib.hid (show ∀ y ∈ (Value.slice A' jq c').ownBlock.toList, y < gx from fun y hy => by have := (HOWN.out.lt y (by simpa using hy)).2; omega)
      unfold insV at hal HXI HOW HXB
      rw [hgx]
      clear hal hgx c0 c1 c2 c3 c4 c5 c6 c7
      generalize wr.alloc (.cells #[.int .i64 xi.op, .int .i64 xi.x, .int .i64 xi.y, .int .i64 xi.n, .int .u64 (wd xi.set 0 : Nat), .int .u64 (wd xi.set 1 : Nat), .int .u64 (wd xi.set 2 : Nat), .int .u64 (wd xi.set 3 : Nat)] 64) = wb at *
      have hgs : gx < wb.heap.size := Blk.lt HXI.out
      have HBW := Lib.hid (show B1 ≤ wb.heap.size from by have := HB1.out; have := HXB.out.size; omega)
      refine wp_region_dagQ (X := fun j => if j = 14 then (Value.slice A' jq c').ownBlock.toList else []) (XX := ((Value.slice A' jq c').ownBlock.toList)) (late := fun j => if j = 14 then [15] else []) (Pre := fun i w => (i = 14 → w.ownsRow B1 47 260 (.slice A' jq c') jq (codeD (c.take jq))) ∧ True) (w0 := wb) (Φ := fun i v w => match i with | 0 => (v = .slice A' jq c') | 1 => (v = .pointer (some ⟨gx, 0, none⟩)) | 2 => (v = .int .i64 xi.op) | 3 => (v = .pointer (some ⟨gx, 1, none⟩)) | 4 => (v = .int .i64 xi.x) | 5 => (v = .pointer (some ⟨gx, 2, none⟩)) | 6 => (v = .int .i64 xi.y) | 7 => (v = .pointer (some ⟨gx, 3, none⟩)) | 8 => (v = .int .i64 xi.n) | 9 => (v = .pointer (some ⟨gx, 4, none⟩)) | 10 => (v = .agg #[.int .u64 (wd xi.set 0 : Nat), .int .u64 (wd xi.set 1 : Nat), .int .u64 (wd xi.set 2 : Nat), .int .u64 (wd xi.set 3 : Nat)]) | 11 => (v = bp xi.set) | 12 => (v = .agg (diC xi).toArray) | 13 => (OneI wb.heap.size xi v w) | 14 => (OutI B1 c jq v w) | 15 => (OutI B1 c jq v w) | _ => True) (show Tryd.prog.follows .mixedOrders = true from Checked.mixed Tryd.checked) 30 rfl (by decide +kernel) ?_ ?_ ?_ ?_ ?_ ⟨?_, ?_, ?_, ?_, ?_, ?_, ?_, ?_, ?_, ?_, ?_, ?_, ?_, ?_, ?_, ?_, trivial⟩ ?_
      · intro j x hx
        by_cases hj14 : j = 14
        · subst hj14; have hx' : x ∈ (Value.slice A' jq c').ownBlock.toList := hx; first | exact hx' | (rw [List.mem_append]; first | exact .inl hx' | exact .inr hx')
        simp [hj14] at hx
      · intro j
        by_cases hj14 : j = 14
        · subst hj14; decide +kernel
        simp [hj14, lateOk]
      · intro i
        exact ⟨fun _ => own_ext HOW.out ((Below.refl _ _).drew), trivial⟩
      · intro i j w w' hij hnl h hc
        refine ⟨?_, trivial⟩
        · intro hi
          subst hi
          have hp := h.1 rfl
          have hc' : Chg [] w w' := hc.mono (fun x hx => by
            by_cases hj14 : j = 14
            · exact absurd hj14 (by omega)
            simp [hj14] at hx)
          exact own_chg hp hc' (by simp)
      · intro i j v w w' hij hla h hc
        by_cases hj14 : j = 14
        · subst hj14
          have hc' : Chg (Value.slice A' jq c').ownBlock.toList w w' := hc
          match i, hij, hla, h with
          | 0, _, _, h => exact h
          | 1, _, _, h => exact h
          | 2, _, _, h => exact h
          | 3, _, _, h => exact h
          | 4, _, _, h => exact h
          | 5, _, _, h => exact h
          | 6, _, _, h => exact h
          | 7, _, _, h => exact h
          | 8, _, _, h => exact h
          | 9, _, _, h => exact h
          | 10, _, _, h => exact h
          | 11, _, _, h => exact h
          | 12, _, _, h => exact h
          | 13, _, _, h => exact (by obtain ⟨vb, g1, g2, g3⟩ := h; exact ⟨vb, g1, g2.chg hc' (fun hm => by have := HGX.out vb hm; omega), g3⟩)
          | 14, hij, _, _ => exact absurd rfl hij
          | 15, _, hla, _ => exact absurd (by decide) hla
          | _ + 16, _, _, _ => trivial
        have hc0 : Chg [] w w' := by simpa [hj14] using hc
        have hE : Ext w w' := hc0.ext (by simp)
        match i, h with
        | 0, h => exact h
        | 1, h => exact h
        | 2, h => exact h
        | 3, h => exact h
        | 4, h => exact h
        | 5, h => exact h
        | 6, h => exact h
        | 7, h => exact h
        | 8, h => exact h
        | 9, h => exact h
        | 10, h => exact h
        | 11, h => exact h
        | 12, h => exact h
        | 13, h => exact (by obtain ⟨vb, g1, g2, g3⟩ := h; exact ⟨vb, g1, g2.keep hE, g3⟩)
        | 14, h => exact (by obtain ⟨A9, c9, g1, g2⟩ := h; exact ⟨A9, c9, g1, own_ext g2 hE⟩)
        | 15, h => exact (by obtain ⟨A9, c9, g1, g2⟩ := h; exact ⟨A9, c9, g1, own_ext g2 hE⟩)
        | _ + 16, _ => trivial
      ·
        intro ac wx hE hP hsz hdf h
        have e3 : ac.tmps[3]? = some (.slice A' jq c') := by obtain ⟨v, h1, h2⟩ := h 3 (by decide +kernel); exact h1.trans h2.symm
        clear h hsz hdf
        go_wp2
        exact ⟨_, rfl, rfl, Chg.refl _ _⟩
      ·
        intro ac wx hE hP hsz hdf h
        have e5 : ac.tmps[5]? = some (.pointer (some ⟨gx, 0, none⟩)) := by obtain ⟨v, h1, h2⟩ := h 5 (by decide +kernel); exact h1.trans h2.symm
        clear h hsz hdf
        go_wp2
        exact ⟨_, rfl, rfl, Chg.refl _ _⟩
      ·
        intro ac wx hE hP hsz hdf h
        have e14 : ac.tmps[14]? = some (.pointer (some ⟨gx, 0, none⟩)) := by obtain ⟨v, h1, h2⟩ := h 14 (by decide +kernel); rw [h1]; exact congrArg some h2
        clear h hsz hdf
        have hb := HXI.out.chg hE (fun hm => by have := HGX.out gx hm; omega); have y0 := hb.cell 0; have y1 := hb.cell 1; have y2 := hb.cell 2; have y3 := hb.cell 3; have y4 := hb.cell 4; have y5 := hb.cell 5; have y6 := hb.cell 6; have y7 := hb.cell 7
        go_wp2
        exact ⟨_, rfl, rfl, Chg.refl _ _⟩
      ·
        intro ac wx hE hP hsz hdf h
        have e5 : ac.tmps[5]? = some (.pointer (some ⟨gx, 0, none⟩)) := by obtain ⟨v, h1, h2⟩ := h 5 (by decide +kernel); exact h1.trans h2.symm
        clear h hsz hdf
        go_wp2
        exact ⟨_, rfl, rfl, Chg.refl _ _⟩
      ·
        intro ac wx hE hP hsz hdf h
        have e16 : ac.tmps[16]? = some (.pointer (some ⟨gx, 1, none⟩)) := by obtain ⟨v, h1, h2⟩ := h 16 (by decide +kernel); rw [h1]; exact congrArg some h2
        clear h hsz hdf
        have hb := HXI.out.chg hE (fun hm => by have := HGX.out gx hm; omega); have y0 := hb.cell 0; have y1 := hb.cell 1; have y2 := hb.cell 2; have y3 := hb.cell 3; have y4 := hb.cell 4; have y5 := hb.cell 5; have y6 := hb.cell 6; have y7 := hb.cell 7
        go_wp2
        exact ⟨_, rfl, rfl, Chg.refl _ _⟩
      ·
        intro ac wx hE hP hsz hdf h
        have e5 : ac.tmps[5]? = some (.pointer (some ⟨gx, 0, none⟩)) := by obtain ⟨v, h1, h2⟩ := h 5 (by decide +kernel); exact h1.trans h2.symm
        clear h hsz hdf
        go_wp2
        exact ⟨_, rfl, rfl, Chg.refl _ _⟩
      ·
        intro ac wx hE hP hsz hdf h
        have e18 : ac.tmps[18]? = some (.pointer (some ⟨gx, 2, none⟩)) := by obtain ⟨v, h1, h2⟩ := h 18 (by decide +kernel); rw [h1]; exact congrArg some h2
        clear h hsz hdf
        have hb := HXI.out.chg hE (fun hm => by have := HGX.out gx hm; omega); have y0 := hb.cell 0; have y1 := hb.cell 1; have y2 := hb.cell 2; have y3 := hb.cell 3; have y4 := hb.cell 4; have y5 := hb.cell 5; have y6 := hb.cell 6; have y7 := hb.cell 7
        go_wp2
        exact ⟨_, rfl, rfl, Chg.refl _ _⟩
      ·
        intro ac wx hE hP hsz hdf h
        have e5 : ac.tmps[5]? = some (.pointer (some ⟨gx, 0, none⟩)) := by obtain ⟨v, h1, h2⟩ := h 5 (by decide +kernel); exact h1.trans h2.symm
        clear h hsz hdf
        go_wp2
        exact ⟨_, rfl, rfl, Chg.refl _ _⟩
      ·
        intro ac wx hE hP hsz hdf h
        have e20 : ac.tmps[20]? = some (.pointer (some ⟨gx, 3, none⟩)) := by obtain ⟨v, h1, h2⟩ := h 20 (by decide +kernel); rw [h1]; exact congrArg some h2
        clear h hsz hdf
        have hb := HXI.out.chg hE (fun hm => by have := HGX.out gx hm; omega); have y0 := hb.cell 0; have y1 := hb.cell 1; have y2 := hb.cell 2; have y3 := hb.cell 3; have y4 := hb.cell 4; have y5 := hb.cell 5; have y6 := hb.cell 6; have y7 := hb.cell 7
        go_wp2
        exact ⟨_, rfl, rfl, Chg.refl _ _⟩
      ·
        intro ac wx hE hP hsz hdf h
        have e5 : ac.tmps[5]? = some (.pointer (some ⟨gx, 0, none⟩)) := by obtain ⟨v, h1, h2⟩ := h 5 (by decide +kernel); exact h1.trans h2.symm
        clear h hsz hdf
        go_wp2
        exact ⟨_, rfl, rfl, Chg.refl _ _⟩
      ·
        intro ac wx hE hP hsz hdf h
        have e22 : ac.tmps[22]? = some (.pointer (some ⟨gx, 4, none⟩)) := by obtain ⟨v, h1, h2⟩ := h 22 (by decide +kernel); rw [h1]; exact congrArg some h2
        clear h hsz hdf
        have hb := HXI.out.chg hE (fun hm => by have := HGX.out gx hm; omega); have y0 := hb.cell 0; have y1 := hb.cell 1; have y2 := hb.cell 2; have y3 := hb.cell 3; have y4 := hb.cell 4; have y5 := hb.cell 5; have y6 := hb.cell 6; have y7 := hb.cell 7
        go_wp2
        exact ⟨_, rfl, rfl, Chg.refl _ _⟩
      ·
        intro ac wx hE hP hsz hdf h
        have e23 : ac.tmps[23]? = some (.agg #[.int .u64 (wd xi.set 0 : Nat), .int .u64 (wd xi.set 1 : Nat), .int .u64 (wd xi.set 2 : Nat), .int .u64 (wd xi.set 3 : Nat)]) := by obtain ⟨v, h1, h2⟩ := h 23 (by decide +kernel); rw [h1]; exact congrArg some h2
        clear h hsz hdf
        go_wp2_with ((go_at_call 50; refine (refOf xi.set wx).mono ?_; rintro e w2 ⟨rfl, hx2⟩))
        exact ⟨_, rfl, rfl, .of_ext hx2⟩
      ·
        intro ac wx hE hP hsz hdf h
        have e15 : ac.tmps[15]? = some (.int .i64 xi.op) := by obtain ⟨v, h1, h2⟩ := h 15 (by decide +kernel); rw [h1]; exact congrArg some h2
        have e17 : ac.tmps[17]? = some (.int .i64 xi.x) := by obtain ⟨v, h1, h2⟩ := h 17 (by decide +kernel); rw [h1]; exact congrArg some h2
        have e19 : ac.tmps[19]? = some (.int .i64 xi.y) := by obtain ⟨v, h1, h2⟩ := h 19 (by decide +kernel); rw [h1]; exact congrArg some h2
        have e21 : ac.tmps[21]? = some (.int .i64 xi.n) := by obtain ⟨v, h1, h2⟩ := h 21 (by decide +kernel); rw [h1]; exact congrArg some h2
        have e24 : ac.tmps[24]? = some (bp xi.set) := by obtain ⟨v, h1, h2⟩ := h 24 (by decide +kernel); rw [h1]; exact congrArg some h2
        clear h hsz hdf
        refine build_di rfl (.tmp 15) (.tmp 17) (.tmp 19) (.tmp 21) (.tmp 24) rfl (i := xi) ?_ ?_ ?_ ?_ ?_ ?_
        · simp [Act.eval, e15]
        · simp [Act.eval, e17]
        · simp [Act.eval, e19]
        · simp [Act.eval, e21]
        · simp [Act.eval, e24]
        · go_wp2; exact ⟨_, rfl, rfl, Chg.refl _ _⟩
      ·
        intro ac wx hE hP hsz hdf h
        have e25 : ac.tmps[25]? = some (.agg (diC xi).toArray) := by obtain ⟨v, h1, h2⟩ := h 25 (by decide +kernel); rw [h1]; exact congrArg some h2
        have hsz8 := hE.size
        clear h hsz hdf
        refine mk_di rfl (.tmp 25) rfl (di_len xi) ?_ ?_
        · simp [Act.eval, e25]
        · go_wp2; exact ⟨_, rfl, ⟨_, rfl, Blk.newL wx 47 (diC xi), hsz8⟩, .of_ext (Ext.new1 _ _)⟩
      ·
        intro ac wx hE hP hsz hdf h
        have e13 : ac.tmps[13]? = some (.slice A' jq c') := by obtain ⟨v, h1, h2⟩ := h 13 (by decide +kernel); rw [h1]; exact congrArg some h2
        obtain ⟨v26, e26, s26⟩ : ∃ v, ac.tmps[26]? = some v ∧ (OneI wb.heap.size xi v wx) := h 26 (by decide +kernel)
        clear h hsz hdf
        obtain ⟨vb, rfl, hvb8, hvb9⟩ := s26; have ho8 := hP.1 rfl; have hsz8 := hE.size
        go_wp2_with ((refine wpList_app2 elemDi rfl (.tmp 13) (.tmp 26) rfl (v := .slice A' jq c') (n := jq) (xs := codeD (c.take jq)) (by simp [Act.eval, e13]) ho8 (by have := HBW.out; omega) (A := some ⟨vb, 0, none⟩) (m := 1) (c := 1) (news := diC xi) (by simp [Act.eval, e26]) (rd_di hvb8) (di_ones xi) (by have := HLT.out; omega) (by have := HLT.out; unfold maxLen; omega) ?_; intro v9 w9 hown9 hgr9 _ _))
        obtain ⟨A9, c9, e9, _, _, _⟩ := own_rd hown9; exact ⟨_, rfl, ⟨A9, c9, e9, by rw [← HTK.out] at hown9; exact hown9⟩, ⟨hgr9.by_.os, hgr9.by_.tape, hgr9.by_.output, hgr9.by_.size, fun k hk hkn => hgr9.by_.block k hk (fun e => hkn (by simp [← e]))⟩⟩
      ·
        intro ac wx hE hP hsz hdf h
        obtain ⟨v27, e27, s27⟩ : ∃ v, ac.tmps[27]? = some v ∧ (OutI B1 c jq v wx) := h 27 (by decide +kernel)
        clear h hsz hdf
        obtain ⟨A9, c9, rfl, ho9⟩ := s27
        go_wp2
        exact ⟨_, rfl, ⟨A9, c9, rfl, ho9⟩, Chg.refl _ _⟩
      · intro ac w9 hE hsz hdf h hrest
        obtain ⟨v0, s0, g0⟩ := h 0 _ rfl
        have e0 := g0 13 rfl
        obtain rfl : v0 = .slice A' jq c' := s0
        obtain ⟨v1, s1, g1⟩ := h 1 _ rfl
        have e1 := g1 14 rfl
        obtain rfl : v1 = .pointer (some ⟨gx, 0, none⟩) := s1
        obtain ⟨v2, s2, g2⟩ := h 2 _ rfl
        have e2 := g2 15 rfl
        obtain rfl : v2 = .int .i64 xi.op := s2
        obtain ⟨v3, s3, g3⟩ := h 3 _ rfl
        have e3 := g3 16 rfl
        obtain rfl : v3 = .pointer (some ⟨gx, 1, none⟩) := s3
        obtain ⟨v4, s4, g4⟩ := h 4 _ rfl
        have e4 := g4 17 rfl
        obtain rfl : v4 = .int .i64 xi.x := s4
        obtain ⟨v5, s5, g5⟩ := h 5 _ rfl
        have e5 := g5 18 rfl
        obtain rfl : v5 = .pointer (some ⟨gx, 2, none⟩) := s5
        obtain ⟨v6, s6, g6⟩ := h 6 _ rfl
        have e6 := g6 19 rfl
        obtain rfl : v6 = .int .i64 xi.y := s6
        obtain ⟨v7, s7, g7⟩ := h 7 _ rfl
        have e7 := g7 20 rfl
        obtain rfl : v7 = .pointer (some ⟨gx, 3, none⟩) := s7
        obtain ⟨v8, s8, g8⟩ := h 8 _ rfl
        have e8 := g8 21 rfl
        obtain rfl : v8 = .int .i64 xi.n := s8
        obtain ⟨v9, s9, g9⟩ := h 9 _ rfl
        have e9 := g9 22 rfl
        obtain rfl : v9 = .pointer (some ⟨gx, 4, none⟩) := s9
        obtain ⟨v10, s10, g10⟩ := h 10 _ rfl
        have e10 := g10 23 rfl
        obtain rfl : v10 = .agg #[.int .u64 (wd xi.set 0 : Nat), .int .u64 (wd xi.set 1 : Nat), .int .u64 (wd xi.set 2 : Nat), .int .u64 (wd xi.set 3 : Nat)] := s10
        obtain ⟨v11, s11, g11⟩ := h 11 _ rfl
        have e11 := g11 24 rfl
        obtain rfl : v11 = bp xi.set := s11
        obtain ⟨v12, s12, g12⟩ := h 12 _ rfl
        have e12 := g12 25 rfl
        obtain rfl : v12 = .agg (diC xi).toArray := s12
        obtain ⟨v13, s13, g13⟩ := h 13 _ rfl
        have e13 := g13 26 rfl
        replace s13 : OneI wb.heap.size xi v13 w9 := s13
        obtain ⟨v14, s14, g14⟩ := h 14 _ rfl
        have e14 := g14 27 rfl
        replace s14 : OutI B1 c jq v14 w9 := s14
        obtain ⟨v15, s15, g15⟩ := h 15 _ rfl
        have e15 := g15 3 rfl
        replace s15 : OutI B1 c jq v15 w9 := s15
        have ha := act_of [(13, .slice A' jq c'), (14, .pointer (some ⟨gx, 0, none⟩)), (15, .int .i64 xi.op), (16, .pointer (some ⟨gx, 1, none⟩)), (17, .int .i64 xi.x), (18, .pointer (some ⟨gx, 2, none⟩)), (19, .int .i64 xi.y), (20, .pointer (some ⟨gx, 3, none⟩)), (21, .int .i64 xi.n), (22, .pointer (some ⟨gx, 4, none⟩)), (23, .agg #[.int .u64 (wd xi.set 0 : Nat), .int .u64 (wd xi.set 1 : Nat), .int .u64 (wd xi.set 2 : Nat), .int .u64 (wd xi.set 3 : Nat)]), (24, bp xi.set), (25, .agg (diC xi).toArray), (26, v13), (27, v14), (3, v15)] rfl hsz hdf (by intro p hp; simp only [List.mem_cons, List.not_mem_nil, or_false] at hp; rcases hp with rfl | rfl | rfl | rfl | rfl | rfl | rfl | rfl | rfl | rfl | rfl | rfl | rfl | rfl | rfl | rfl <;> first | exact e0 | exact e1 | exact e2 | exact e3 | exact e4 | exact e5 | exact e6 | exact e7 | exact e8 | exact e9 | exact e10 | exact e11 | exact e12 | exact e13 | exact e14 | exact e15) hrest
        clear h hrest hsz hdf e0 e1 e2 e3 e4 e5 e6 e7 e8 e9 e10 e11 e12 e13 e14 e15 g0 g1 g2 g3 g4 g5 g6 g7 g8 g9 g10 g11 g12 g13 g14 g15
        subst ha
        simp only [List.foldl_cons, List.foldl_nil, Act.put, List.setIfInBounds_toArray, List.set_cons_succ, List.set_cons_zero]
        obtain ⟨A9, c9, rfl, ho9⟩ := s15
        have HX9 := Lib.hid (show Ext w0 w9 from ((Chg.of_ext HXB.out).trans hE).ext (fun y hy => by have := (HOWN.out.lt y (by simpa using hy)).1; have := HB1.out; omega))
        have HO9 := Lib.hid ho9
        have hw2 := HW2.out
        clear ho9 hE s13 s14
        go_wp2
        go_roundg (N - (jq + 1))
        case measure => omega
        case rel => exact ⟨jq + 1, by have := HLT.out; omega, rfl, by go_num, HO9.out, HX9.out⟩
    · obtain rfl : jq = N := by omega
      have hlt' : ¬ (jq : Int) < (jq : Int) := by omega
      have HXR := Lib.hid hx
      obtain ⟨A', c', rfl, _, _, hrd⟩ := own_rd hown
      have HRD := Lib.hid hrd
      have HLO := Lib.hid (show ∀ b o x, A' = some ⟨b, o, x⟩ → w0.heap.size ≤ b from fun b o x e => by subst e; have := (hown.lt b rfl).1; have := HB1.out; omega)
      clear hown hx hrd
      go_wp2
      go_ret
      refine ⟨A', c', rfl, ?_, HXR.out, HLO.out⟩
      have h2 := HRD.out
      rw [List.take_of_length_le (by rw [hN]; exact Nat.le_refl _)] at h2
      exact h2
theorem law25Of (c : List Ins) (A : Option Addr) (cc : Nat) (N : Nat) (hN : c.length = N) (hN5 : N ≤ 100000) (w0 : World) (hR : Rd w0 8 A N (codeV c)) :
    Calls Tryd.prog 19 #[.slice A N cc] w0 fun e w' => OfR w0 N c e w' :=
  (law25OfAt c A cc N hN hN5 w0 hR).mono fun _ _ ⟨B, c2, h1, h2, h3, _⟩ => ⟨B, c2, h1, h2, h3⟩
end Go.Proofs.YtdhmfgaiomfodaaDoor
namespace Go.Proofs.YtdhmfgaiomfodaaDoor
open Go Go.RowKit
attribute [local irreducible] wd

structure WP where
  Ac : Option Addr
  cc : Nat
  c : List Ins
  l : List UInt8
  base : Int
  gw : Nat
  gd : Nat
  G : Nat
def WP.K (R : WP) : Nat := (R.l.length + 1) * R.c.length
def wkC (R : WP) : List Value := [.slice R.Ac R.c.length R.cc, .string ⟨R.l.toArray⟩, .int .i64 R.base, .slice (some ⟨R.gd, 0, none⟩) R.K R.K]
def deadV (D : D2) (N K : Nat) : List Value := (List.range K).map fun j => .bool (D (j / N) (j % N))
structure WkOK (R : WP) (w : World) (D : D2) : Prop where
  blk : Blk w R.gw 106 (wkC R)
  code : Rd w 260 R.Ac R.c.length (codeD R.c)
  cne : ∀ b o v, R.Ac = some ⟨b, o, v⟩ → b ≠ R.gd
  ne : R.gw ≠ R.gd
  dead : Blk w R.gd 4 (deadV D R.c.length R.K)
theorem WkOK.keep {R : WP} {w w' : World} {D : D2} (h : WkOK R w D) (hx : Ext w w') : WkOK R w' D := ⟨h.blk.keep hx, h.code.keep hx, h.cne, h.ne, h.dead.keep hx⟩
theorem WkOK.chg {R : WP} {w w' : World} {D D' : D2} (h : WkOK R w D) (hc : Chg [R.gd] w w') (hd : Blk w' R.gd 4 (deadV D' R.c.length R.K)) : WkOK R w' D' :=
  ⟨h.blk.chg hc (by have := h.ne; simpa using this), h.code.chg hc (fun _ b o v e => by have := h.cne b o v e; simpa using this), h.cne, h.ne, hd⟩
def CapsOK (R : WP) (w : World) (A : Option Addr) (n : Nat) (k : List Int) : Prop := Rd w 1 A n (intsV k) ∧ ∀ b o v, A = some ⟨b, o, v⟩ → b ≠ R.gd
theorem CapsOK.chg {R : WP} {w w' : World} {A : Option Addr} {n : Nat} {k : List Int} (h : CapsOK R w A n k) (hc : Chg [R.gd] w w') : CapsOK R w' A n k := ⟨h.1.chg hc (fun _ b o v e => by have := h.2 b o v e; simpa using this), h.2⟩
theorem CapsOK.keep {R : WP} {w w' : World} {A : Option Addr} {n : Nat} {k : List Int} (h : CapsOK R w A n k) (hx : Ext w w') : CapsOK R w' A n k := ⟨h.1.keep hx, h.2⟩
end Go.Proofs.YtdhmfgaiomfodaaDoor
namespace Go.Proofs.YtdhmfgaiomfodaaDoor
open Go Go.RowKit
attribute [local irreducible] wd

end Go.Proofs.YtdhmfgaiomfodaaDoor
