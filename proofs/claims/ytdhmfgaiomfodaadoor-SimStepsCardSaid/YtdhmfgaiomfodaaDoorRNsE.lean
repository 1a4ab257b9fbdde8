/- Put together: Nf7, Nf8. -/
import Derived.Test.YtdhmfgaiomfodaaDoorRNsC
import Derived.Test.YtdhmfgaiomfodaaDoorRNsA
import Derived.Deep.LoopGhost
import Derived.Deep.DeepCutAuto
namespace Go.Proofs.YtdhmfgaiomfodaaDoor
open Go Go.RowKit
attribute [local irreducible] wd

theorem ins_size : (Tryd.prog.info? 64).map (·.size) = some 8 := by kernel_rfl
theorem store_ins {w : World} {ops : Array Oper} {rest : List Oper} {o : Oper} {a : Act} {Q : Exit → Act → World → Prop} (hgd : o.guard = none) (x y : Operand) (ho : o.op = .store 64 x y)
    {g : Nat} {old : List Value} (new : List Value) (hx : a.eval x = .pointer (some ⟨g, 0, none⟩)) (hy : a.eval y = .agg new.toArray) (hg : Blk w g 64 old) (h8 : old.length = 8) (n8 : new.length = 8) (h1 : new.all (·.oneCell') = true)
    (h : wpList Tryd.prog ops Q rest (a.put o.dst undef) (w.setRow g new.toArray)) : wpList Tryd.prog ops Q (o :: rest) a w :=
  wpList_store_row hgd _ x y ho g new.toArray hx hy _ old.toArray hg (by rw [List.size_toArray, n8]; exact ins_size) (by rw [List.size_toArray, List.size_toArray, h8, n8]) (by simpa using h1) h
theorem results_ins {fn : Func} {p : Tmp} (h : fn.results = #[.cell p 64]) {tmps : Array Value} {w : World} {g : Nat} {cs : List Value}
    (hp : tmps.getD p undef = .pointer (some ⟨g, 0, none⟩)) (hg : Blk w g 64 cs) (h8 : cs.length = 8) : (results fn tmps).run Tryd.prog w = .ok (.agg cs.toArray) w := by
  have hp' : tmps[p]?.getD undef = .pointer (some ⟨g, 0, none⟩) := by simpa using hp
  have hl : (loadVar 64 ⟨g, 0, none⟩).run Tryd.prog w = .ok (.agg cs.toArray) w :=
    run_loadVar_row w g _ _ cs.toArray (0, 0) _ hg Tryd.underlying64 rfl (by rw [List.size_toArray, h8]; exact ins_size)
  simp [results, h, hp', asAddr, hl]

/-- An instruction with what its kind has alone. -/
def Ins.bareOK (i : Ins) : Prop := (i.op = 1 ∧ i.x = 0 ∧ i.y = 0 ∧ i.n = 0) ∨ (i.op = 2 ∧ i.y = 0 ∧ i.n = 0 ∧ i.set = fun _ => false) ∨ (i.op = 3 ∧ i.n = 0 ∧ i.set = fun _ => false) ∨ (i.op = 4 ∧ i.x = 0 ∧ i.y = 0 ∧ i.set = fun _ => false) ∨ (i.op = 5 ∧ i.x = 0 ∧ i.y = 0 ∧ i.n = 0 ∧ i.set = fun _ => false)

set_option maxHeartbeats 4000000 in
set_option maxRecDepth 20000 in
theorem nfBare (i : Ins) (hb : i.bareOK) (w : World) :
    Calls Tryd.prog 73 #[.agg (insV i).toArray] w fun e w' => e = .returned (.agg (insV i).toArray) ∧ Ext w w' := by
  obtain ⟨op, x, y, n, p⟩ := i
  have hw : ∀ j, wd (fun _ => false) j = 0 := fun j => wd_none j
  have hxa := Ext.new1 w (.cells (insV ⟨op, x, y, n, p⟩).toArray 64)
  have hxp := Ext.new1 (w.alloc (.cells (insV ⟨op, x, y, n, p⟩).toArray 64)) (.cells #[.int .i64 0, .int .i64 0, .int .i64 0, .int .i64 0, .int .u64 0, .int .u64 0, .int .u64 0, .int .u64 0] 64)
  have HB := Lib.hid ((Blk.newA (w := w) rfl 64 (insV ⟨op, x, y, n, p⟩)).keep hxp)
  have HZ := Lib.hid (Blk.newA (w := w.alloc (.cells (insV ⟨op, x, y, n, p⟩).toArray 64)) (g := w.heap.size + 1) (by simp) 64 [.int .i64 0, .int .i64 0, .int .i64 0, .int .i64 0, .int .u64 0, .int .u64 0, .int .u64 0, .int .u64 0])
  have HX := Lib.hid (Ext.trans hxa hxp)
  have HW := Lib.hid hw
  clear hxa hxp hw
  unfold insV at HB HZ HX
  unfold insV
  dsimp only at *
  rcases hb with ⟨h1, h2, h3, h4⟩ | ⟨h1, h2, h3, h4⟩ | ⟨h1, h2, h3⟩ | ⟨h1, h2, h3, h4⟩ | ⟨h1, h2, h3, h4, h5⟩
  · subst h1 h2 h3 h4
    go_enter Tryd.func73, Tryd.ntmps73
    obtain ⟨gi, hgi⟩ : ∃ gi, w.heap.size = gi := ⟨_, rfl⟩
    have HGI := Lib.hid hgi
    rw [hgi] at HB HZ
    clear hgi
    go_upto_region 1 with fail
    generalize (w.alloc (.cells _ 64)).alloc (.cells _ 64) = wa at *
    rw [HGI.out]
    have b0 := HB.out.cell 0; have b1 := HB.out.cell 1; have b2 := HB.out.cell 2; have b3 := HB.out.cell 3; have b4 := HB.out.cell 4; have b5 := HB.out.cell 5; have b6 := HB.out.cell 6; have b7 := HB.out.cell 7
    go_wp2_with (refine store_ins rfl (.tmp 2) (.tmp 9) rfl (g := gi + 1) [.int .i64 1, .int .i64 0, .int .i64 0, .int .i64 0, .int .u64 (wd p 0 : Nat), .int .u64 (wd p 1 : Nat), .int .u64 (wd p 2 : Nat), .int .u64 (wd p 3 : Nat)] rfl rfl HZ.out rfl rfl rfl ?_)
    refine bodyPost_ret (results_ins rfl rfl (Blk.row HZ.out _) rfl) rfl ⟨rfl, HX.out.rowX _ _ (by have := HGI.out; omega)⟩
  · subst h1 h2 h3 h4
    rw [HW.out 0, HW.out 1, HW.out 2, HW.out 3] at *
    go_enter Tryd.func73, Tryd.ntmps73
    obtain ⟨gi, hgi⟩ : ∃ gi, w.heap.size = gi := ⟨_, rfl⟩
    have HGI := Lib.hid hgi
    rw [hgi] at HB HZ
    clear hgi
    go_upto_region 1 with fail
    generalize (w.alloc (.cells _ 64)).alloc (.cells _ 64) = wa at *
    rw [HGI.out]
    have b0 := HB.out.cell 0; have b1 := HB.out.cell 1; have b2 := HB.out.cell 2; have b3 := HB.out.cell 3; have b4 := HB.out.cell 4; have b5 := HB.out.cell 5; have b6 := HB.out.cell 6; have b7 := HB.out.cell 7
    go_wp2_with (refine store_ins rfl (.tmp 2) (.tmp 14) rfl (g := gi + 1) [.int .i64 2, .int .i64 x, .int .i64 0, .int .i64 0, .int .u64 0, .int .u64 0, .int .u64 0, .int .u64 0] rfl rfl HZ.out rfl rfl rfl ?_)
    refine bodyPost_ret (results_ins rfl rfl (Blk.row HZ.out _) rfl) rfl ⟨rfl, HX.out.rowX _ _ (by have := HGI.out; omega)⟩
  · subst h1 h2 h3
    rw [HW.out 0, HW.out 1, HW.out 2, HW.out 3] at *
    go_enter Tryd.func73, Tryd.ntmps73
    obtain ⟨gi, hgi⟩ : ∃ gi, w.heap.size = gi := ⟨_, rfl⟩
    have HGI := Lib.hid hgi
    rw [hgi] at HB HZ
    clear hgi
    go_upto_region 1 with fail
    generalize (w.alloc (.cells _ 64)).alloc (.cells _ 64) = wa at *
    rw [HGI.out]
    have b0 := HB.out.cell 0; have b1 := HB.out.cell 1; have b2 := HB.out.cell 2; have b3 := HB.out.cell 3; have b4 := HB.out.cell 4; have b5 := HB.out.cell 5; have b6 := HB.out.cell 6; have b7 := HB.out.cell 7
    go_wp2_with (refine store_ins rfl (.tmp 2) (.tmp 21) rfl (g := gi + 1) [.int .i64 3, .int .i64 x, .int .i64 y, .int .i64 0, .int .u64 0, .int .u64 0, .int .u64 0, .int .u64 0] rfl rfl HZ.out rfl rfl rfl ?_)
    refine bodyPost_ret (results_ins rfl rfl (Blk.row HZ.out _) rfl) rfl ⟨rfl, HX.out.rowX _ _ (by have := HGI.out; omega)⟩
  · subst h1 h2 h3 h4
    rw [HW.out 0, HW.out 1, HW.out 2, HW.out 3] at *
    go_enter Tryd.func73, Tryd.ntmps73
    obtain ⟨gi, hgi⟩ : ∃ gi, w.heap.size = gi := ⟨_, rfl⟩
    have HGI := Lib.hid hgi
    rw [hgi] at HB HZ
    clear hgi
    go_upto_region 1 with fail
    generalize (w.alloc (.cells _ 64)).alloc (.cells _ 64) = wa at *
    rw [HGI.out]
    have b0 := HB.out.cell 0; have b1 := HB.out.cell 1; have b2 := HB.out.cell 2; have b3 := HB.out.cell 3; have b4 := HB.out.cell 4; have b5 := HB.out.cell 5; have b6 := HB.out.cell 6; have b7 := HB.out.cell 7
    go_wp2_with (refine store_ins rfl (.tmp 2) (.tmp 26) rfl (g := gi + 1) [.int .i64 4, .int .i64 0, .int .i64 0, .int .i64 n, .int .u64 0, .int .u64 0, .int .u64 0, .int .u64 0] rfl rfl HZ.out rfl rfl rfl ?_)
    refine bodyPost_ret (results_ins rfl rfl (Blk.row HZ.out _) rfl) rfl ⟨rfl, HX.out.rowX _ _ (by have := HGI.out; omega)⟩
  · subst h1 h2 h3 h4 h5
    rw [HW.out 0, HW.out 1, HW.out 2, HW.out 3] at *
    go_enter Tryd.func73, Tryd.ntmps73
    obtain ⟨gi, hgi⟩ : ∃ gi, w.heap.size = gi := ⟨_, rfl⟩
    have HGI := Lib.hid hgi
    rw [hgi] at HB HZ
    clear hgi
    go_upto_region 1 with fail
    generalize (w.alloc (.cells _ 64)).alloc (.cells _ 64) = wa at *
    rw [HGI.out]
    have b0 := HB.out.cell 0; have b1 := HB.out.cell 1; have b2 := HB.out.cell 2; have b3 := HB.out.cell 3; have b4 := HB.out.cell 4; have b5 := HB.out.cell 5; have b6 := HB.out.cell 6; have b7 := HB.out.cell 7
    go_wp2_with (refine store_ins rfl (.tmp 2) (.tmp 29) rfl (g := gi + 1) [.int .i64 5, .int .i64 0, .int .i64 0, .int .i64 0, .int .u64 0, .int .u64 0, .int .u64 0, .int .u64 0] rfl rfl HZ.out rfl rfl rfl ?_)
    refine bodyPost_ret (results_ins rfl rfl (Blk.row HZ.out _) rfl) rfl ⟨rfl, HX.out.rowX _ _ (by have := HGI.out; omega)⟩

/-- An instruction's cells. -/
theorem code_cellsN {w : World} {A : Option Addr} {c : List Ins} (h : Rd w 8 A c.length (codeV c)) {pc : Nat} {i : Ins} (hi : c[pc]? = some i) : ∃ b o, A = some ⟨b, o, none⟩ ∧ ∀ j u, (insV i)[j]? = some u → w.cell? ⟨b, o + (pc * 8 + j), none⟩ = some u := by
  have hlt := (List.getElem?_eq_some_iff.1 hi).1
  obtain ⟨b, o, e, _, hc⟩ := h.2 (by rw [codeV_len]; omega)
  refine ⟨b, o, e, fun j u hu => ?_⟩
  have hj := (List.getElem?_eq_some_iff.1 hu).1
  have h8 : (insV i).length = 8 := rfl
  have e2 : (codeV c)[pc * 8 + j]? = some u := by
    have e3 : c = c.take pc ++ i :: c.drop (pc + 1) := by
      obtain ⟨_, rfl⟩ := List.getElem?_eq_some_iff.1 hi
      rw [← List.drop_eq_getElem_cons hlt, List.take_append_drop]
    have hl : (c.take pc).length = pc := by rw [List.length_take]; omega
    have e4 : codeV c = codeV (c.take pc) ++ (insV i ++ codeV (c.drop (pc + 1))) := by
      conv => lhs; rw [e3]
      rw [codeV_app]; rfl
    rw [e4, List.getElem?_append_right (by rw [codeV_len, hl]; omega), codeV_len, hl, Nat.add_sub_cancel_left, List.getElem?_append_left (by omega)]
    exact hu
  exact hc _ _ e2
theorem eqSp9 (p : Nat → Bool) (w : World) : (Op.equalIn 9999 24 (.agg #[.int .u64 (wd p 0 : Nat), .int .u64 (wd p 1 : Nat), .int .u64 (wd p 2 : Nat), .int .u64 (wd p 3 : Nat)]) (.agg #[.int .u64 (wd p 0 : Nat), .int .u64 (wd p 1 : Nat), .int .u64 (wd p 2 : Nat), .int .u64 (wd p 3 : Nat)])).run Tryd.prog w = .ok true w := by
  have h := run_equalIn_arr (P := Tryd.prog) 9998 24 22 4 #[.int .u64 (wd p 0 : Nat), .int .u64 (wd p 1 : Nat), .int .u64 (wd p 2 : Nat), .int .u64 (wd p 3 : Nat)] #[.int .u64 (wd p 0 : Nat), .int .u64 (wd p 1 : Nat), .int .u64 (wd p 2 : Nat), .int .u64 (wd p 3 : Nat)]
    (fun i => .int .u64 (wd p i : Nat)) (fun i => .int .u64 (wd p i : Nat)) (fun _ => true) Tryd.underlying24 (by kernel_rfl) (fun w => by kernel_rfl)
    (fun i hi => by match i, hi with | 0, _ => rfl | 1, _ => rfl | 2, _ => rfl | 3, _ => rfl) (fun i hi => by match i, hi with | 0, _ => rfl | 1, _ => rfl | 2, _ => rfl | 3, _ => rfl) (fun i _ w => by
      have := run_equalIn_int w 9997 22 .u64 .u64 (wd p i : Nat) (wd p i : Nat) Tryd.underlying22
      simpa using this) w
  exact h

/-- A right instruction of so many, with so many groups. -/
structure InsOK (i : Ins) (many G : Nat) : Prop where
  lo : 1 ≤ i.op
  hi : i.op ≤ 5
  x0 : 0 ≤ i.x
  x1 : i.x < many
  y0 : 0 ≤ i.y
  y1 : i.y < many
  sv : i.op = 4 → 2 ≤ i.n ∧ i.n ≤ 2 * (G : Int) + 1
  ba : i.bareOK

set_option maxHeartbeats 8000000 in
set_option maxRecDepth 20000 in
theorem nfInsRight (xi : Ins) (many G : Nat) (hm : many ≤ 1000) (hG : G ≤ 9) (h : InsOK xi many G) (w : World) :
    Calls Tryd.prog 48 #[.agg (insV xi).toArray, .int .i64 (many : Nat), .int .i64 (G : Nat)] w fun e w' => e = .returned (.bool true) ∧ Ext w w' := by
  have HX0 := Lib.hid (Ext.new1 w (.cells (insV xi).toArray 64))
  obtain ⟨gi, hgi⟩ : ∃ gi, w.heap.size = gi := ⟨_, rfl⟩
  have HB := Lib.hid (Blk.newA (w := w) hgi 64 (insV xi))
  have HGI := Lib.hid hgi
  have HK := Lib.hid h
  have HM := Lib.hid hm
  have HG := Lib.hid hG
  have q1 : ¬ xi.op < 1 := by have := h.lo; omega
  have q2 : ¬ (5 : Int) < xi.op := by have := h.hi; omega
  have q3 : ¬ xi.x < 0 := by have := h.x0; omega
  have q4 : ¬ (many : Int) ≤ xi.x := by have := h.x1; omega
  have q5 : ¬ xi.y < 0 := by have := h.y0; omega
  have q6 : ¬ (many : Int) ≤ xi.y := by have := h.y1; omega
  have Q := Lib.hid (And.intro q1 (And.intro q2 (And.intro q3 (And.intro q4 (And.intro q5 q6)))))
  clear hgi h hm hG q1 q2 q3 q4 q5 q6
  unfold insV
  go_enter Tryd.func48, Tryd.ntmps48
  go_upto_region 1 with fail
  rw [HGI.out]
  unfold insV at HX0 HB
  generalize w.alloc (.cells _ 64) = wa at *
  refine wp_region_dag (E := Ext) (w0 := wa) (Φ := fun i v w => match i with | 0 => (v = .pointer (some ⟨gi, 0, none⟩)) | 1 => (v = .int .i64 xi.op) | 2 => (v = .bool false) | 3 => (v = .bool false) | 4 => (v = .pointer (some ⟨gi, 0, none⟩)) | 5 => (v = .int .i64 xi.op) | 6 => (v = .bool false) | 7 => (v = .bool false) | 8 => (v = .bool false) | 9 => (v = .agg #[.int .i64 xi.op, .int .i64 xi.x, .int .i64 xi.y, .int .i64 xi.n, .int .u64 (wd xi.set 0 : Nat), .int .u64 (wd xi.set 1 : Nat), .int .u64 (wd xi.set 2 : Nat), .int .u64 (wd xi.set 3 : Nat)]) | 10 => (v = .agg #[.int .i64 xi.op, .int .i64 xi.x, .int .i64 xi.y, .int .i64 xi.n, .int .u64 (wd xi.set 0 : Nat), .int .u64 (wd xi.set 1 : Nat), .int .u64 (wd xi.set 2 : Nat), .int .u64 (wd xi.set 3 : Nat)]) | 11 => (v = .agg #[.int .i64 xi.op, .int .i64 xi.x, .int .i64 xi.y, .int .i64 xi.n, .int .u64 (wd xi.set 0 : Nat), .int .u64 (wd xi.set 1 : Nat), .int .u64 (wd xi.set 2 : Nat), .int .u64 (wd xi.set 3 : Nat)]) | 12 => (v = .bool false) | 13 => (v = .bool false) | 14 => (v = .bool false) | 15 => (v = .pointer (some ⟨gi, 1, none⟩)) | 16 => (v = .int .i64 xi.x) | 17 => (v = .bool false) | 18 => (v = .bool false) | 19 => (v = .bool false) | 20 => (v = .pointer (some ⟨gi, 1, none⟩)) | 21 => (v = .int .i64 xi.x) | 22 => (v = .int .i64 (many : Nat)) | 23 => (v = .bool false) | 24 => (v = .bool false) | 25 => (v = .bool false) | 26 => (v = .pointer (some ⟨gi, 2, none⟩)) | 27 => (v = .int .i64 xi.y) | 28 => (v = .bool false) | 29 => (v = .bool false) | 30 => (v = .bool false) | 31 => (v = .pointer (some ⟨gi, 2, none⟩)) | 32 => (v = .int .i64 xi.y) | 33 => (v = .int .i64 (many : Nat)) | 34 => (v = .bool false) | 35 => (v = .bool false) | _ => True) (show Tryd.prog.follows .mixedOrders = true from Checked.mixed Tryd.checked) 59 rfl (by decide +kernel) ?_ ((Below.refl _ _).drew) ?_ ⟨?_, ?_, ?_, ?_, ?_, ?_, ?_, ?_, ?_, ?_, ?_, ?_, ?_, ?_, ?_, ?_, ?_, ?_, ?_, ?_, ?_, ?_, ?_, ?_, ?_, ?_, ?_, ?_, ?_, ?_, ?_, ?_, ?_, ?_, ?_, ?_, trivial⟩ ?_
  · intro i v w w' h hE
    match i, h with
    | 0, h => exact h
    | 1, h => exact h
    | 2, h => exact h
    | 3, h => exact h
    | 4, h => exact h
    | 5, h => exact h
    | 6, h => exact h
    | 7, h => exact h
    | 8, h => exact h
    | 9, h => exact h
    | 10, h => exact h
    | 11, h => exact h
    | 12, h => exact h
    | 13, h => exact h
    | 14, h => exact h
    | 15, h => exact h
    | 16, h => exact h
    | 17, h => exact h
    | 18, h => exact h
    | 19, h => exact h
    | 20, h => exact h
    | 21, h => exact h
    | 22, h => exact h
    | 23, h => exact h
    | 24, h => exact h
    | 25, h => exact h
    | 26, h => exact h
    | 27, h => exact h
    | 28, h => exact h
    | 29, h => exact h
    | 30, h => exact h
    | 31, h => exact h
    | 32, h => exact h
    | 33, h => exact h
    | 34, h => exact h
    | 35, h => exact h
    | _ + 36, _ => trivial
  · exact fun w w' h h' => h.trans h'
  ·
    intro ac w hE hsz hdf h
    have e3 : ac.tmps[3]? = some (.pointer (some ⟨gi, 0, none⟩)) := by obtain ⟨v, h1, h2⟩ := h 3 (by decide +kernel); exact h1.trans (h2.symm.trans rfl)
    clear h hsz hdf
    go_wp2
    exact ⟨_, rfl, rfl, Ext.refl _⟩
  ·
    intro ac w hE hsz hdf h
    have e7 : ac.tmps[7]? = some (.pointer (some ⟨gi, 0, none⟩)) := by obtain ⟨v, h1, h2⟩ := h 7 (by decide +kernel); rw [h1]; exact congrArg some h2
    clear h hsz hdf
    have y := (HB.out.keep hE).cell 0
    go_wp2
    exact ⟨_, rfl, rfl, Ext.refl _⟩
  ·
    intro ac w hE hsz hdf h
    have e8 : ac.tmps[8]? = some (.int .i64 xi.op) := by obtain ⟨v, h1, h2⟩ := h 8 (by decide +kernel); rw [h1]; exact congrArg some h2
    clear h hsz hdf
    have q := Q.out.1
    go_wp2
    exact ⟨_, rfl, rfl, Ext.refl _⟩
  ·
    intro ac w hE hsz hdf h
    have e9 : ac.tmps[9]? = some (.bool false) := by obtain ⟨v, h1, h2⟩ := h 9 (by decide +kernel); rw [h1]; exact congrArg some h2
    clear h hsz hdf
    go_wp2
    exact ⟨_, rfl, rfl, Ext.refl _⟩
  ·
    intro ac w hE hsz hdf h
    have e3 : ac.tmps[3]? = some (.pointer (some ⟨gi, 0, none⟩)) := by obtain ⟨v, h1, h2⟩ := h 3 (by decide +kernel); exact h1.trans (h2.symm.trans rfl)
    have e10 : ac.tmps[10]? = some (.bool false) := by obtain ⟨v, h1, h2⟩ := h 10 (by decide +kernel); rw [h1]; exact congrArg some h2
    clear h hsz hdf
    go_wp2
    exact ⟨_, rfl, rfl, Ext.refl _⟩
  ·
    intro ac w hE hsz hdf h
    have e11 : ac.tmps[11]? = some (.pointer (some ⟨gi, 0, none⟩)) := by obtain ⟨v, h1, h2⟩ := h 11 (by decide +kernel); rw [h1]; exact congrArg some h2
    have e10 : ac.tmps[10]? = some (.bool false) := by obtain ⟨v, h1, h2⟩ := h 10 (by decide +kernel); rw [h1]; exact congrArg some h2
    clear h hsz hdf
    have y := (HB.out.keep hE).cell 0
    go_wp2
    exact ⟨_, rfl, rfl, Ext.refl _⟩
  ·
    intro ac w hE hsz hdf h
    have e12 : ac.tmps[12]? = some (.int .i64 xi.op) := by obtain ⟨v, h1, h2⟩ := h 12 (by decide +kernel); rw [h1]; exact congrArg some h2
    have e10 : ac.tmps[10]? = some (.bool false) := by obtain ⟨v, h1, h2⟩ := h 10 (by decide +kernel); rw [h1]; exact congrArg some h2
    clear h hsz hdf
    have q := Q.out.2.1
    go_wp2
    exact ⟨_, rfl, rfl, Ext.refl _⟩
  ·
    intro ac w hE hsz hdf h
    have e10 : ac.tmps[10]? = some (.bool false) := by obtain ⟨v, h1, h2⟩ := h 10 (by decide +kernel); rw [h1]; exact congrArg some h2
    have e13 : ac.tmps[13]? = some (.bool false) := by obtain ⟨v, h1, h2⟩ := h 13 (by decide +kernel); rw [h1]; exact congrArg some h2
    clear h hsz hdf
    go_wp2
    exact ⟨_, rfl, rfl, Ext.refl _⟩
  ·
    intro ac w hE hsz hdf h
    have e14 : ac.tmps[14]? = some (.bool false) := by obtain ⟨v, h1, h2⟩ := h 14 (by decide +kernel); rw [h1]; exact congrArg some h2
    clear h hsz hdf
    go_wp2
    exact ⟨_, rfl, rfl, Ext.refl _⟩
  ·
    intro ac w hE hsz hdf h
    have e3 : ac.tmps[3]? = some (.pointer (some ⟨gi, 0, none⟩)) := by obtain ⟨v, h1, h2⟩ := h 3 (by decide +kernel); exact h1.trans (h2.symm.trans rfl)
    have e15 : ac.tmps[15]? = some (.bool false) := by obtain ⟨v, h1, h2⟩ := h 15 (by decide +kernel); rw [h1]; exact congrArg some h2
    clear h hsz hdf
    have hb := HB.out.keep hE; have y0 := hb.cell 0; have y1 := hb.cell 1; have y2 := hb.cell 2; have y3 := hb.cell 3; have y4 := hb.cell 4; have y5 := hb.cell 5; have y6 := hb.cell 6; have y7 := hb.cell 7
    go_wp2
    exact ⟨_, rfl, rfl, Ext.refl _⟩
  ·
    intro ac w hE hsz hdf h
    have e3 : ac.tmps[3]? = some (.pointer (some ⟨gi, 0, none⟩)) := by obtain ⟨v, h1, h2⟩ := h 3 (by decide +kernel); exact h1.trans (h2.symm.trans rfl)
    have e15 : ac.tmps[15]? = some (.bool false) := by obtain ⟨v, h1, h2⟩ := h 15 (by decide +kernel); rw [h1]; exact congrArg some h2
    clear h hsz hdf
    have hb := HB.out.keep hE; have y0 := hb.cell 0; have y1 := hb.cell 1; have y2 := hb.cell 2; have y3 := hb.cell 3; have y4 := hb.cell 4; have y5 := hb.cell 5; have y6 := hb.cell 6; have y7 := hb.cell 7
    go_wp2
    exact ⟨_, rfl, rfl, Ext.refl _⟩
  ·
    intro ac w hE hsz hdf h
    have e17 : ac.tmps[17]? = some (.agg #[.int .i64 xi.op, .int .i64 xi.x, .int .i64 xi.y, .int .i64 xi.n, .int .u64 (wd xi.set 0 : Nat), .int .u64 (wd xi.set 1 : Nat), .int .u64 (wd xi.set 2 : Nat), .int .u64 (wd xi.set 3 : Nat)]) := by obtain ⟨v, h1, h2⟩ := h 17 (by decide +kernel); rw [h1]; exact congrArg some h2
    have e15 : ac.tmps[15]? = some (.bool false) := by obtain ⟨v, h1, h2⟩ := h 15 (by decide +kernel); rw [h1]; exact congrArg some h2
    clear h hsz hdf
    go_wp2_with ((go_at_call 73; refine (nfBare xi HK.out.ba _).mono ?_; rintro e w2 ⟨rfl, hx2⟩))
    exact ⟨_, rfl, rfl, hx2⟩
  ·
    intro ac w hE hsz hdf h
    have e16 : ac.tmps[16]? = some (.agg #[.int .i64 xi.op, .int .i64 xi.x, .int .i64 xi.y, .int .i64 xi.n, .int .u64 (wd xi.set 0 : Nat), .int .u64 (wd xi.set 1 : Nat), .int .u64 (wd xi.set 2 : Nat), .int .u64 (wd xi.set 3 : Nat)]) := by obtain ⟨v, h1, h2⟩ := h 16 (by decide +kernel); rw [h1]; exact congrArg some h2
    have e18 : ac.tmps[18]? = some (.agg #[.int .i64 xi.op, .int .i64 xi.x, .int .i64 xi.y, .int .i64 xi.n, .int .u64 (wd xi.set 0 : Nat), .int .u64 (wd xi.set 1 : Nat), .int .u64 (wd xi.set 2 : Nat), .int .u64 (wd xi.set 3 : Nat)]) := by obtain ⟨v, h1, h2⟩ := h 18 (by decide +kernel); rw [h1]; exact congrArg some h2
    have e15 : ac.tmps[15]? = some (.bool false) := by obtain ⟨v, h1, h2⟩ := h 15 (by decide +kernel); rw [h1]; exact congrArg some h2
    clear h hsz hdf
    have hq := fun w => eqSp9 xi.set w
    go_wp2
    exact ⟨_, rfl, rfl, Ext.refl _⟩
  ·
    intro ac w hE hsz hdf h
    have e15 : ac.tmps[15]? = some (.bool false) := by obtain ⟨v, h1, h2⟩ := h 15 (by decide +kernel); rw [h1]; exact congrArg some h2
    have e19 : ac.tmps[19]? = some (.bool false) := by obtain ⟨v, h1, h2⟩ := h 19 (by decide +kernel); rw [h1]; exact congrArg some h2
    clear h hsz hdf
    go_wp2
    exact ⟨_, rfl, rfl, Ext.refl _⟩
  ·
    intro ac w hE hsz hdf h
    have e20 : ac.tmps[20]? = some (.bool false) := by obtain ⟨v, h1, h2⟩ := h 20 (by decide +kernel); rw [h1]; exact congrArg some h2
    clear h hsz hdf
    go_wp2
    exact ⟨_, rfl, rfl, Ext.refl _⟩
  ·
    intro ac w hE hsz hdf h
    have e3 : ac.tmps[3]? = some (.pointer (some ⟨gi, 0, none⟩)) := by obtain ⟨v, h1, h2⟩ := h 3 (by decide +kernel); exact h1.trans (h2.symm.trans rfl)
    have e21 : ac.tmps[21]? = some (.bool false) := by obtain ⟨v, h1, h2⟩ := h 21 (by decide +kernel); rw [h1]; exact congrArg some h2
    clear h hsz hdf
    go_wp2
    exact ⟨_, rfl, rfl, Ext.refl _⟩
  ·
    intro ac w hE hsz hdf h
    have e22 : ac.tmps[22]? = some (.pointer (some ⟨gi, 1, none⟩)) := by obtain ⟨v, h1, h2⟩ := h 22 (by decide +kernel); rw [h1]; exact congrArg some h2
    have e21 : ac.tmps[21]? = some (.bool false) := by obtain ⟨v, h1, h2⟩ := h 21 (by decide +kernel); rw [h1]; exact congrArg some h2
    clear h hsz hdf
    have y := (HB.out.keep hE).cell 1
    go_wp2
    exact ⟨_, rfl, rfl, Ext.refl _⟩
  ·
    intro ac w hE hsz hdf h
    have e23 : ac.tmps[23]? = some (.int .i64 xi.x) := by obtain ⟨v, h1, h2⟩ := h 23 (by decide +kernel); rw [h1]; exact congrArg some h2
    have e21 : ac.tmps[21]? = some (.bool false) := by obtain ⟨v, h1, h2⟩ := h 21 (by decide +kernel); rw [h1]; exact congrArg some h2
    clear h hsz hdf
    have q := Q.out.2.2.1
    go_wp2
    exact ⟨_, rfl, rfl, Ext.refl _⟩
  ·
    intro ac w hE hsz hdf h
    have e21 : ac.tmps[21]? = some (.bool false) := by obtain ⟨v, h1, h2⟩ := h 21 (by decide +kernel); rw [h1]; exact congrArg some h2
    have e24 : ac.tmps[24]? = some (.bool false) := by obtain ⟨v, h1, h2⟩ := h 24 (by decide +kernel); rw [h1]; exact congrArg some h2
    clear h hsz hdf
    go_wp2
    exact ⟨_, rfl, rfl, Ext.refl _⟩
  ·
    intro ac w hE hsz hdf h
    have e25 : ac.tmps[25]? = some (.bool false) := by obtain ⟨v, h1, h2⟩ := h 25 (by decide +kernel); rw [h1]; exact congrArg some h2
    clear h hsz hdf
    go_wp2
    exact ⟨_, rfl, rfl, Ext.refl _⟩
  ·
    intro ac w hE hsz hdf h
    have e3 : ac.tmps[3]? = some (.pointer (some ⟨gi, 0, none⟩)) := by obtain ⟨v, h1, h2⟩ := h 3 (by decide +kernel); exact h1.trans (h2.symm.trans rfl)
    have e26 : ac.tmps[26]? = some (.bool false) := by obtain ⟨v, h1, h2⟩ := h 26 (by decide +kernel); rw [h1]; exact congrArg some h2
    clear h hsz hdf
    go_wp2
    exact ⟨_, rfl, rfl, Ext.refl _⟩
  ·
    intro ac w hE hsz hdf h
    have e27 : ac.tmps[27]? = some (.pointer (some ⟨gi, 1, none⟩)) := by obtain ⟨v, h1, h2⟩ := h 27 (by decide +kernel); rw [h1]; exact congrArg some h2
    have e26 : ac.tmps[26]? = some (.bool false) := by obtain ⟨v, h1, h2⟩ := h 26 (by decide +kernel); rw [h1]; exact congrArg some h2
    clear h hsz hdf
    have y := (HB.out.keep hE).cell 1
    go_wp2
    exact ⟨_, rfl, rfl, Ext.refl _⟩
  ·
    intro ac w hE hsz hdf h
    have e1 : ac.tmps[1]? = some (.int .i64 (many : Nat)) := by obtain ⟨v, h1, h2⟩ := h 1 (by decide +kernel); exact h1.trans (h2.symm.trans rfl)
    have e26 : ac.tmps[26]? = some (.bool false) := by obtain ⟨v, h1, h2⟩ := h 26 (by decide +kernel); rw [h1]; exact congrArg some h2
    clear h hsz hdf
    go_wp2
    exact ⟨_, rfl, rfl, Ext.refl _⟩
  ·
    intro ac w hE hsz hdf h
    have e28 : ac.tmps[28]? = some (.int .i64 xi.x) := by obtain ⟨v, h1, h2⟩ := h 28 (by decide +kernel); rw [h1]; exact congrArg some h2
    have e29 : ac.tmps[29]? = some (.int .i64 (many : Nat)) := by obtain ⟨v, h1, h2⟩ := h 29 (by decide +kernel); rw [h1]; exact congrArg some h2
    have e26 : ac.tmps[26]? = some (.bool false) := by obtain ⟨v, h1, h2⟩ := h 26 (by decide +kernel); rw [h1]; exact congrArg some h2
    clear h hsz hdf
    have q := Q.out.2.2.2.1
    go_wp2
    exact ⟨_, rfl, rfl, Ext.refl _⟩
  ·
    intro ac w hE hsz hdf h
    have e26 : ac.tmps[26]? = some (.bool false) := by obtain ⟨v, h1, h2⟩ := h 26 (by decide +kernel); rw [h1]; exact congrArg some h2
    have e30 : ac.tmps[30]? = some (.bool false) := by obtain ⟨v, h1, h2⟩ := h 30 (by decide +kernel); rw [h1]; exact congrArg some h2
    clear h hsz hdf
    go_wp2
    exact ⟨_, rfl, rfl, Ext.refl _⟩
  ·
    intro ac w hE hsz hdf h
    have e31 : ac.tmps[31]? = some (.bool false) := by obtain ⟨v, h1, h2⟩ := h 31 (by decide +kernel); rw [h1]; exact congrArg some h2
    clear h hsz hdf
    go_wp2
    exact ⟨_, rfl, rfl, Ext.refl _⟩
  ·
    intro ac w hE hsz hdf h
    have e3 : ac.tmps[3]? = some (.pointer (some ⟨gi, 0, none⟩)) := by obtain ⟨v, h1, h2⟩ := h 3 (by decide +kernel); exact h1.trans (h2.symm.trans rfl)
    have e32 : ac.tmps[32]? = some (.bool false) := by obtain ⟨v, h1, h2⟩ := h 32 (by decide +kernel); rw [h1]; exact congrArg some h2
    clear h hsz hdf
    go_wp2
    exact ⟨_, rfl, rfl, Ext.refl _⟩
  ·
    intro ac w hE hsz hdf h
    have e33 : ac.tmps[33]? = some (.pointer (some ⟨gi, 2, none⟩)) := by obtain ⟨v, h1, h2⟩ := h 33 (by decide +kernel); rw [h1]; exact congrArg some h2
    have e32 : ac.tmps[32]? = some (.bool false) := by obtain ⟨v, h1, h2⟩ := h 32 (by decide +kernel); rw [h1]; exact congrArg some h2
    clear h hsz hdf
    have y := (HB.out.keep hE).cell 2
    go_wp2
    exact ⟨_, rfl, rfl, Ext.refl _⟩
  ·
    intro ac w hE hsz hdf h
    have e34 : ac.tmps[34]? = some (.int .i64 xi.y) := by obtain ⟨v, h1, h2⟩ := h 34 (by decide +kernel); rw [h1]; exact congrArg some h2
    have e32 : ac.tmps[32]? = some (.bool false) := by obtain ⟨v, h1, h2⟩ := h 32 (by decide +kernel); rw [h1]; exact congrArg some h2
    clear h hsz hdf
    have q := Q.out.2.2.2.2.1
    go_wp2
    exact ⟨_, rfl, rfl, Ext.refl _⟩
  ·
    intro ac w hE hsz hdf h
    have e32 : ac.tmps[32]? = some (.bool false) := by obtain ⟨v, h1, h2⟩ := h 32 (by decide +kernel); rw [h1]; exact congrArg some h2
    have e35 : ac.tmps[35]? = some (.bool false) := by obtain ⟨v, h1, h2⟩ := h 35 (by decide +kernel); rw [h1]; exact congrArg some h2
    clear h hsz hdf
    go_wp2
    exact ⟨_, rfl, rfl, Ext.refl _⟩
  ·
    intro ac w hE hsz hdf h
    have e36 : ac.tmps[36]? = some (.bool false) := by obtain ⟨v, h1, h2⟩ := h 36 (by decide +kernel); rw [h1]; exact congrArg some h2
    clear h hsz hdf
    go_wp2
    exact ⟨_, rfl, rfl, Ext.refl _⟩
  ·
    intro ac w hE hsz hdf h
    have e3 : ac.tmps[3]? = some (.pointer (some ⟨gi, 0, none⟩)) := by obtain ⟨v, h1, h2⟩ := h 3 (by decide +kernel); exact h1.trans (h2.symm.trans rfl)
    have e37 : ac.tmps[37]? = some (.bool false) := by obtain ⟨v, h1, h2⟩ := h 37 (by decide +kernel); rw [h1]; exact congrArg some h2
    clear h hsz hdf
    go_wp2
    exact ⟨_, rfl, rfl, Ext.refl _⟩
  ·
    intro ac w hE hsz hdf h
    have e38 : ac.tmps[38]? = some (.pointer (some ⟨gi, 2, none⟩)) := by obtain ⟨v, h1, h2⟩ := h 38 (by decide +kernel); rw [h1]; exact congrArg some h2
    have e37 : ac.tmps[37]? = some (.bool false) := by obtain ⟨v, h1, h2⟩ := h 37 (by decide +kernel); rw [h1]; exact congrArg some h2
    clear h hsz hdf
    have y := (HB.out.keep hE).cell 2
    go_wp2
    exact ⟨_, rfl, rfl, Ext.refl _⟩
  ·
    intro ac w hE hsz hdf h
    have e1 : ac.tmps[1]? = some (.int .i64 (many : Nat)) := by obtain ⟨v, h1, h2⟩ := h 1 (by decide +kernel); exact h1.trans (h2.symm.trans rfl)
    have e37 : ac.tmps[37]? = some (.bool false) := by obtain ⟨v, h1, h2⟩ := h 37 (by decide +kernel); rw [h1]; exact congrArg some h2
    clear h hsz hdf
    go_wp2
    exact ⟨_, rfl, rfl, Ext.refl _⟩
  ·
    intro ac w hE hsz hdf h
    have e39 : ac.tmps[39]? = some (.int .i64 xi.y) := by obtain ⟨v, h1, h2⟩ := h 39 (by decide +kernel); rw [h1]; exact congrArg some h2
    have e40 : ac.tmps[40]? = some (.int .i64 (many : Nat)) := by obtain ⟨v, h1, h2⟩ := h 40 (by decide +kernel); rw [h1]; exact congrArg some h2
    have e37 : ac.tmps[37]? = some (.bool false) := by obtain ⟨v, h1, h2⟩ := h 37 (by decide +kernel); rw [h1]; exact congrArg some h2
    clear h hsz hdf
    have q := Q.out.2.2.2.2.2
    go_wp2
    exact ⟨_, rfl, rfl, Ext.refl _⟩
  ·
    intro ac w hE hsz hdf h
    have e37 : ac.tmps[37]? = some (.bool false) := by obtain ⟨v, h1, h2⟩ := h 37 (by decide +kernel); rw [h1]; exact congrArg some h2
    have e41 : ac.tmps[41]? = some (.bool false) := by obtain ⟨v, h1, h2⟩ := h 41 (by decide +kernel); rw [h1]; exact congrArg some h2
    clear h hsz hdf
    go_wp2
    exact ⟨_, rfl, rfl, Ext.refl _⟩
  · intro ac w9 hE hsz hdf h hrest
    obtain ⟨v0, s0, g0⟩ := h 0 _ rfl
    have e0 := g0 7 rfl
    obtain rfl : v0 = .pointer (some ⟨gi, 0, none⟩) := s0
    obtain ⟨v1, s1, g1⟩ := h 1 _ rfl
    have e1 := g1 8 rfl
    obtain rfl : v1 = .int .i64 xi.op := s1
    obtain ⟨v2, s2, g2⟩ := h 2 _ rfl
    have e2 := g2 9 rfl
    obtain rfl : v2 = .bool false := s2
    obtain ⟨v3, s3, g3⟩ := h 3 _ rfl
    have e3 := g3 10 rfl
    obtain rfl : v3 = .bool false := s3
    obtain ⟨v4, s4, g4⟩ := h 4 _ rfl
    have e4 := g4 11 rfl
    obtain rfl : v4 = .pointer (some ⟨gi, 0, none⟩) := s4
    obtain ⟨v5, s5, g5⟩ := h 5 _ rfl
    have e5 := g5 12 rfl
    obtain rfl : v5 = .int .i64 xi.op := s5
    obtain ⟨v6, s6, g6⟩ := h 6 _ rfl
    have e6 := g6 13 rfl
    obtain rfl : v6 = .bool false := s6
    obtain ⟨v7, s7, g7⟩ := h 7 _ rfl
    have e7 := g7 14 rfl
    obtain rfl : v7 = .bool false := s7
    obtain ⟨v8, s8, g8⟩ := h 8 _ rfl
    have e8 := g8 15 rfl
    obtain rfl : v8 = .bool false := s8
    obtain ⟨v9, s9, g9⟩ := h 9 _ rfl
    have e9 := g9 16 rfl
    obtain rfl : v9 = .agg #[.int .i64 xi.op, .int .i64 xi.x, .int .i64 xi.y, .int .i64 xi.n, .int .u64 (wd xi.set 0 : Nat), .int .u64 (wd xi.set 1 : Nat), .int .u64 (wd xi.set 2 : Nat), .int .u64 (wd xi.set 3 : Nat)] := s9
    obtain ⟨v10, s10, g10⟩ := h 10 _ rfl
    have e10 := g10 17 rfl
    obtain rfl : v10 = .agg #[.int .i64 xi.op, .int .i64 xi.x, .int .i64 xi.y, .int .i64 xi.n, .int .u64 (wd xi.set 0 : Nat), .int .u64 (wd xi.set 1 : Nat), .int .u64 (wd xi.set 2 : Nat), .int .u64 (wd xi.set 3 : Nat)] := s10
    obtain ⟨v11, s11, g11⟩ := h 11 _ rfl
    have e11 := g11 18 rfl
    obtain rfl : v11 = .agg #[.int .i64 xi.op, .int .i64 xi.x, .int .i64 xi.y, .int .i64 xi.n, .int .u64 (wd xi.set 0 : Nat), .int .u64 (wd xi.set 1 : Nat), .int .u64 (wd xi.set 2 : Nat), .int .u64 (wd xi.set 3 : Nat)] := s11
    obtain ⟨v12, s12, g12⟩ := h 12 _ rfl
    have e12 := g12 19 rfl
    obtain rfl : v12 = .bool false := s12
    obtain ⟨v13, s13, g13⟩ := h 13 _ rfl
    have e13 := g13 20 rfl
    obtain rfl : v13 = .bool false := s13
    obtain ⟨v14, s14, g14⟩ := h 14 _ rfl
    have e14 := g14 21 rfl
    obtain rfl : v14 = .bool false := s14
    obtain ⟨v15, s15, g15⟩ := h 15 _ rfl
    have e15 := g15 22 rfl
    obtain rfl : v15 = .pointer (some ⟨gi, 1, none⟩) := s15
    obtain ⟨v16, s16, g16⟩ := h 16 _ rfl
    have e16 := g16 23 rfl
    obtain rfl : v16 = .int .i64 xi.x := s16
    obtain ⟨v17, s17, g17⟩ := h 17 _ rfl
    have e17 := g17 24 rfl
    obtain rfl : v17 = .bool false := s17
    obtain ⟨v18, s18, g18⟩ := h 18 _ rfl
    have e18 := g18 25 rfl
    obtain rfl : v18 = .bool false := s18
    obtain ⟨v19, s19, g19⟩ := h 19 _ rfl
    have e19 := g19 26 rfl
    obtain rfl : v19 = .bool false := s19
    obtain ⟨v20, s20, g20⟩ := h 20 _ rfl
    have e20 := g20 27 rfl
    obtain rfl : v20 = .pointer (some ⟨gi, 1, none⟩) := s20
    obtain ⟨v21, s21, g21⟩ := h 21 _ rfl
    have e21 := g21 28 rfl
    obtain rfl : v21 = .int .i64 xi.x := s21
    obtain ⟨v22, s22, g22⟩ := h 22 _ rfl
    have e22 := g22 29 rfl
    obtain rfl : v22 = .int .i64 (many : Nat) := s22
    obtain ⟨v23, s23, g23⟩ := h 23 _ rfl
    have e23 := g23 30 rfl
    obtain rfl : v23 = .bool false := s23
    obtain ⟨v24, s24, g24⟩ := h 24 _ rfl
    have e24 := g24 31 rfl
    obtain rfl : v24 = .bool false := s24
    obtain ⟨v25, s25, g25⟩ := h 25 _ rfl
    have e25 := g25 32 rfl
    obtain rfl : v25 = .bool false := s25
    obtain ⟨v26, s26, g26⟩ := h 26 _ rfl
    have e26 := g26 33 rfl
    obtain rfl : v26 = .pointer (some ⟨gi, 2, none⟩) := s26
    obtain ⟨v27, s27, g27⟩ := h 27 _ rfl
    have e27 := g27 34 rfl
    obtain rfl : v27 = .int .i64 xi.y := s27
    obtain ⟨v28, s28, g28⟩ := h 28 _ rfl
    have e28 := g28 35 rfl
    obtain rfl : v28 = .bool false := s28
    obtain ⟨v29, s29, g29⟩ := h 29 _ rfl
    have e29 := g29 36 rfl
    obtain rfl : v29 = .bool false := s29
    obtain ⟨v30, s30, g30⟩ := h 30 _ rfl
    have e30 := g30 37 rfl
    obtain rfl : v30 = .bool false := s30
    obtain ⟨v31, s31, g31⟩ := h 31 _ rfl
    have e31 := g31 38 rfl
    obtain rfl : v31 = .pointer (some ⟨gi, 2, none⟩) := s31
    obtain ⟨v32, s32, g32⟩ := h 32 _ rfl
    have e32 := g32 39 rfl
    obtain rfl : v32 = .int .i64 xi.y := s32
    obtain ⟨v33, s33, g33⟩ := h 33 _ rfl
    have e33 := g33 40 rfl
    obtain rfl : v33 = .int .i64 (many : Nat) := s33
    obtain ⟨v34, s34, g34⟩ := h 34 _ rfl
    have e34 := g34 41 rfl
    obtain rfl : v34 = .bool false := s34
    obtain ⟨v35, s35, g35⟩ := h 35 _ rfl
    have e35 := g35 42 rfl
    obtain rfl : v35 = .bool false := s35
    have ha := act_of [(7, .pointer (some ⟨gi, 0, none⟩)), (8, .int .i64 xi.op), (9, .bool false), (10, .bool false), (11, .pointer (some ⟨gi, 0, none⟩)), (12, .int .i64 xi.op), (13, .bool false), (14, .bool false), (15, .bool false), (16, .agg #[.int .i64 xi.op, .int .i64 xi.x, .int .i64 xi.y, .int .i64 xi.n, .int .u64 (wd xi.set 0 : Nat), .int .u64 (wd xi.set 1 : Nat), .int .u64 (wd xi.set 2 : Nat), .int .u64 (wd xi.set 3 : Nat)]), (17, .agg #[.int .i64 xi.op, .int .i64 xi.x, .int .i64 xi.y, .int .i64 xi.n, .int .u64 (wd xi.set 0 : Nat), .int .u64 (wd xi.set 1 : Nat), .int .u64 (wd xi.set 2 : Nat), .int .u64 (wd xi.set 3 : Nat)]), (18, .agg #[.int .i64 xi.op, .int .i64 xi.x, .int .i64 xi.y, .int .i64 xi.n, .int .u64 (wd xi.set 0 : Nat), .int .u64 (wd xi.set 1 : Nat), .int .u64 (wd xi.set 2 : Nat), .int .u64 (wd xi.set 3 : Nat)]), (19, .bool false), (20, .bool false), (21, .bool false), (22, .pointer (some ⟨gi, 1, none⟩)), (23, .int .i64 xi.x), (24, .bool false), (25, .bool false), (26, .bool false), (27, .pointer (some ⟨gi, 1, none⟩)), (28, .int .i64 xi.x), (29, .int .i64 (many : Nat)), (30, .bool false), (31, .bool false), (32, .bool false), (33, .pointer (some ⟨gi, 2, none⟩)), (34, .int .i64 xi.y), (35, .bool false), (36, .bool false), (37, .bool false), (38, .pointer (some ⟨gi, 2, none⟩)), (39, .int .i64 xi.y), (40, .int .i64 (many : Nat)), (41, .bool false), (42, .bool false)] rfl hsz hdf (by intro p hp; simp only [List.mem_cons, List.not_mem_nil, or_false] at hp; rcases hp with rfl | rfl | rfl | rfl | rfl | rfl | rfl | rfl | rfl | rfl | rfl | rfl | rfl | rfl | rfl | rfl | rfl | rfl | rfl | rfl | rfl | rfl | rfl | rfl | rfl | rfl | rfl | rfl | rfl | rfl | rfl | rfl | rfl | rfl | rfl | rfl <;> first | exact e0 | exact e1 | exact e2 | exact e3 | exact e4 | exact e5 | exact e6 | exact e7 | exact e8 | exact e9 | exact e10 | exact e11 | exact e12 | exact e13 | exact e14 | exact e15 | exact e16 | exact e17 | exact e18 | exact e19 | exact e20 | exact e21 | exact e22 | exact e23 | exact e24 | exact e25 | exact e26 | exact e27 | exact e28 | exact e29 | exact e30 | exact e31 | exact e32 | exact e33 | exact e34 | exact e35) hrest
    clear h hrest hsz hdf e0 e1 e2 e3 e4 e5 e6 e7 e8 e9 e10 e11 e12 e13 e14 e15 e16 e17 e18 e19 e20 e21 e22 e23 e24 e25 e26 e27 e28 e29 e30 e31 e32 e33 e34 e35 g0 g1 g2 g3 g4 g5 g6 g7 g8 g9 g10 g11 g12 g13 g14 g15 g16 g17 g18 g19 g20 g21 g22 g23 g24 g25 g26 g27 g28 g29 g30 g31 g32 g33 g34 g35
    subst ha
    simp only [List.foldl_cons, List.foldl_nil, Act.put, List.setIfInBounds_toArray, List.set_cons_succ, List.set_cons_zero]
    have hb9 := HB.out.keep hE
    have c0 : w9.cell? ⟨gi, 0, none⟩ = some (.int .i64 xi.op) := hb9.cell 0
    have c3 : w9.cell? ⟨gi, 3, none⟩ = some (.int .i64 xi.n) := hb9.cell 3
    have hX9 := Ext.trans HX0.out hE
    by_cases ho : xi.op = 4
    · have h1 : (2 : Int) ≤ xi.n := (HK.out.sv ho).1
      have h2 : xi.n ≤ 2 * (G : Int) + 1 := (HK.out.sv ho).2
      have hw1 : IntKind.i64.wrap (2 * (G : Int)) = 2 * (G : Int) := wrap_id (by omega) (by have := HG.out; omega)
      have hw2 : IntKind.i64.wrap (2 * (G : Int) + 1) = 2 * (G : Int) + 1 := wrap_id (by omega) (by have := HG.out; omega)
      rw [ho] at c0
      clear ho hb9
      go_wp2
      go_ret
      exact ⟨rfl, hX9⟩
    · have h4 : (xi.op != 4) = true := by simp [ho]
      have h4' : (xi.op == 4) = false := beq_eq_false_iff_ne.2 ho
      clear ho hb9
      go_wp2
      go_ret
      exact ⟨rfl, hX9⟩

/-- A program's box stays, and its closure finds nothing wrong. -/
theorem nfRightFn (c : List Ins) (G : Nat) (hl : c.length ≤ 1000) (hG : G ≤ 9) (A : Option Addr) (cc gp : Nat) (xi : Ins) (h : InsOK xi c.length G) (w : World) (hB : Blk w gp 32 [.slice A c.length cc, .int .i64 (G : Nat)]) :
    Calls Tryd.prog 47 #[.agg (insV xi).toArray, .pointer (some ⟨gp, 0, none⟩)] w fun e w' => e = .returned (.bool false) ∧ Ext w w' := by
  have HX0 := Lib.hid (Ext.new1 w (.cells (insV xi).toArray 64))
  have hb := hB.keep HX0.out
  obtain ⟨N, hN⟩ : ∃ N, c.length = N := ⟨_, rfl⟩
  rw [hN] at h hb hl
  have HK := Lib.hid h
  have HL := Lib.hid hl
  clear h hl hB hN
  unfold insV at HX0 hb ⊢
  have b0 := hb.cell 0
  have b1 := hb.cell 1
  clear hb
  go_enter Tryd.func47, Tryd.ntmps47
  go_wp2_with (go_at_call 48; refine (nfInsRight xi N G HL.out hG HK.out _).mono ?_; rintro e w1 ⟨rfl, hx1⟩)
  go_ret
  exact ⟨rfl, Ext.trans HX0.out hx1⟩

set_option maxHeartbeats 4000000 in
set_option maxRecDepth 20000 in
theorem nfIndex (c : List Ins) (G : Nat) (hl : c.length ≤ 1000) (hG : G ≤ 9) (A : Option Addr) (cc gp : Nat) (h : ∀ i ∈ c, InsOK i c.length G) (w : World) (hB : Blk w gp 32 [.slice A c.length cc, .int .i64 (G : Nat)]) (hR : Rd w 8 A c.length (codeV c)) :
    Calls Tryd.prog 72 #[.slice A c.length cc, .func (.func 47) #[] #[.pointer (some ⟨gp, 0, none⟩)]] w fun e w' => e = .returned (.int .i64 (-1)) ∧ Ext w w' := by
  have HR := Lib.hid hR
  have HB := Lib.hid hB
  have HL := Lib.hid hl
  have HK := Lib.hid h
  obtain ⟨N, hN⟩ : ∃ N, c.length = N := ⟨_, rfl⟩
  have HN := Lib.hid hN
  rw [hN]
  clear hR hB hl h hN
  go_enter Tryd.func72, Tryd.ntmps72
  go_wp2
  go_loopg [8] N (fun g a wr => ∃ j : Nat, j ≤ N ∧ g = N - j ∧ a = .int .i64 (j : Nat) ∧ Ext w wr)
  case atStart => exact ⟨0, by omega, rfl, rfl, Ext.refl _⟩
  case round =>
    obtain ⟨j, hj, rfl, rfl, hx⟩ := hrel
    by_cases hlt : j < N
    · obtain ⟨xi, hxi⟩ : ∃ xi, c[j]? = some xi := ⟨_, List.getElem?_eq_getElem (by have := HN.out; omega)⟩
      obtain ⟨bA, oA, rfl, hcell⟩ := code_cellsN (HR.out.keep hx) hxi
      have c0 : wr.cell? ⟨bA, oA + j * 8, none⟩ = some (.int .i64 xi.op) := hcell 0 _ rfl
      have c1 : wr.cell? ⟨bA, oA + j * 8 + 1, none⟩ = some (.int .i64 xi.x) := hcell 1 _ rfl
      have c2 : wr.cell? ⟨bA, oA + j * 8 + 2, none⟩ = some (.int .i64 xi.y) := hcell 2 _ rfl
      have c3 : wr.cell? ⟨bA, oA + j * 8 + 3, none⟩ = some (.int .i64 xi.n) := hcell 3 _ rfl
      have c4 : wr.cell? ⟨bA, oA + j * 8 + 4, none⟩ = some (.int .u64 (wd xi.set 0 : Nat)) := hcell 4 _ rfl
      have c5 : wr.cell? ⟨bA, oA + j * 8 + 5, none⟩ = some (.int .u64 (wd xi.set 1 : Nat)) := hcell 5 _ rfl
      have c6 : wr.cell? ⟨bA, oA + j * 8 + 6, none⟩ = some (.int .u64 (wd xi.set 2 : Nat)) := hcell 6 _ rfl
      have c7 : wr.cell? ⟨bA, oA + j * 8 + 7, none⟩ = some (.int .u64 (wd xi.set 3 : Nat)) := hcell 7 _ rfl
      have hlt' : (j : Int) < (N : Int) := by omega
      have hw2 : IntKind.i64.wrap ((j : Int) + 1) = (j : Int) + 1 := wrap_id (by omega) (by have := HL.out; have := HN.out; omega)
      have HM := Lib.hid (List.mem_of_getElem? hxi)
      have HX := Lib.hid hx
      clear hcell hxi hx
      go_wp2_with (go_at_call 47; refine (nfRightFn c G HL.out hG _ cc gp xi (HK.out xi HM.out) _ (HB.out.keep HX.out)).mono ?_; rintro e w1 ⟨rfl, hx1⟩)
      go_roundg (N - (j + 1))
      case measure => omega
      case rel => exact ⟨j + 1, by omega, rfl, by go_num, Ext.trans HX.out hx1⟩
    · obtain rfl : j = N := by omega
      have hlt' : ¬ (j : Int) < (j : Int) := by omega
      go_wp2
      go_ret
      exact ⟨rfl, hx⟩

set_option maxHeartbeats 4000000 in
theorem nfContains (c : List Ins) (G : Nat) (hl : c.length ≤ 1000) (hG : G ≤ 9) (A : Option Addr) (cc gp : Nat) (h : ∀ i ∈ c, InsOK i c.length G) (w : World) (hB : Blk w gp 32 [.slice A c.length cc, .int .i64 (G : Nat)]) (hR : Rd w 8 A c.length (codeV c)) :
    Calls Tryd.prog 46 #[.slice A c.length cc, .func (.func 47) #[] #[.pointer (some ⟨gp, 0, none⟩)]] w fun e w' => e = .returned (.bool false) ∧ Ext w w' := by
  have H := Lib.hid (nfIndex c G hl hG A cc gp h w hB hR)
  clear hB hR h hl hG
  go_enter Tryd.func46, Tryd.ntmps46
  go_wp2_with (go_at_call 72; refine H.out.mono ?_; rintro e w1 ⟨rfl, hx1⟩)
  go_ret
  exact ⟨rfl, hx1⟩

set_option maxHeartbeats 4000000 in
set_option maxRecDepth 20000 in
/-- A program of right instructions, of which the last one is Match, is right. -/
theorem nfRight (c : List Ins) (G : Nat) (h0 : 0 < c.length) (hl : c.length ≤ 400) (hG : G ≤ 9) (hlast : (c[c.length - 1]?).map (·.op) = some 5) (A : Option Addr) (cc : Nat) (h : ∀ i ∈ c, InsOK i c.length G) (w : World) (hR : Rd w 8 A c.length (codeV c)) :
    Calls Tryd.prog 16 #[.agg #[.slice A c.length cc, .int .i64 (G : Nat)]] w fun e w' => e = .returned (.bool true) ∧ Ext w w' := by
  have hx0 := Ext.new1 w (.cells #[.slice A c.length cc, .int .i64 (G : Nat)] 32)
  have HX := Lib.hid hx0
  obtain ⟨gp, hgp⟩ : ∃ gp, w.heap.size = gp := ⟨_, rfl⟩
  have HB := Lib.hid (Blk.newA (w := w) hgp 32 [.slice A c.length cc, .int .i64 (G : Nat)])
  have HR := Lib.hid (hR.keep hx0)
  have HK := Lib.hid h
  have HL := Lib.hid hl
  have HG := Lib.hid hG
  have HGP := Lib.hid hgp
  obtain ⟨xi, hxi, ho5⟩ : ∃ xi, c[c.length - 1]? = some xi ∧ xi.op = 5 := by
    cases hc : c[c.length - 1]? with
    | none => rw [hc] at hlast; cases hlast
    | some xi => rw [hc] at hlast; exact ⟨xi, rfl, Option.some.inj hlast⟩
  obtain ⟨bA, oA, hA, hcell⟩ := code_cellsN HR.out hxi
  subst hA
  have c0 : (w.alloc (.cells #[.slice (some ⟨bA, oA, none⟩) c.length cc, .int .i64 (G : Nat)] 32)).cell? ⟨bA, oA + (c.length - 1) * 8, none⟩ = some (.int .i64 5) := by rw [← ho5]; exact hcell 0 _ rfl
  have b0 := HB.out.cell 0
  have b1 := HB.out.cell 1
  obtain ⟨M, hM⟩ : ∃ M, c.length = M := ⟨_, rfl⟩
  obtain ⟨N, hN⟩ : ∃ N, M - 1 = N := ⟨_, rfl⟩
  have HM := Lib.hid hM
  rw [hM] at c0 HB HR HX b0 b1 h0 hl
  rw [hN] at c0
  have l1 : ¬ (M : Int) < 1 := by omega
  have l2 : ¬ (400 : Int) < (M : Int) := by omega
  have l3 : ¬ (G : Int) < 0 := by omega
  have l4 : ¬ (9 : Int) < (G : Int) := by omega
  have l5 : (N : Int) < (M : Int) := by omega
  have hw : IntKind.i64.wrap ((M : Int) - 1) = (N : Int) := by rw [show (M : Int) - 1 = N by omega]; exact wrap_id (by omega) (by omega)
  rw [hM]
  clear hR h hl hG hlast hxi ho5 hcell hx0 h0 hgp hM hN
  go_enter Tryd.func16, Tryd.ntmps16
  go_upto_region 1 with fail
  rw [HGP.out]
  generalize w.alloc (.cells _ 32) = wa at *
  go_wp2_with (go_at_call 46; rw [← HM.out]; refine (nfContains c G (by have := HL.out; omega) HG.out _ cc gp HK.out wa (by rw [HM.out]; exact HB.out) (by rw [HM.out]; exact HR.out)).mono ?_; rintro e w1 ⟨rfl, hx1⟩)
  go_ret
  exact ⟨rfl, Ext.trans HX.out hx1⟩
end Go.Proofs.YtdhmfgaiomfodaaDoor
namespace Go.Proofs.YtdhmfgaiomfodaaDoor
open Go Go.RowKit
attribute [local irreducible] wd

set_option maxHeartbeats 8000000 in
set_option maxRecDepth 20000 in
theorem nfCompileBad (E : Nat → Addr) (t : T) (hbad : (t.right 1 0).1 = false ∨ ((t.right 1 0).1 = true ∧ 9 < t.groups)) (hs : t.size ≤ 100) (S : Nat → Prop) (w : World) (nv : List Value) (hv : NodeV S w t nv) (hE : Env E w) :
    Calls Tryd.prog 12 #[.agg nv.toArray] w fun e w' => e = .returned (.tuple #[.agg #[.slice none 0 0, .int .i64 0], errV E (if (t.right 1 0).1 = true then 1 else 4)]) ∧ Ext w w' := by
  obtain ⟨k, m, z, p, B, n, c, rfl⟩ := nodeV_form hv
  have hx1 := Ext.new1 w (.cells (nodeC k m z p B n c).toArray 27)
  have HB := Lib.hid (NodeB.new w k m z p B n c)
  have HS := Lib.hid hs
  have HX1 := Lib.hid hx1
  have HV := Lib.hid (show NodeV (fun b => b < w.heap.size) w t _ from hv.mono (fun b hb _ => hb))
  have HE := Lib.hid hE
  have HBAD := Lib.hid hbad
  clear hv hs hx1 hE hbad
  unfold nodeC at HB HX1 HV ⊢
  obtain ⟨K, hK⟩ : ∃ K, (if (t.right 1 0).1 = true then 1 else 4) = K := ⟨_, rfl⟩
  have HK := Lib.hid hK
  rw [hK]
  clear hK
  go_enter Tryd.func12, Tryd.ntmps12
  go_upto_region 1 with fail
  obtain ⟨gb, hgb⟩ : ∃ gb, w.heap.size = gb := ⟨_, rfl⟩
  have HGB := Lib.hid hgb
  have hxp := Ext.new1 (w.alloc (.cells #[.int .i64 k, .int .i64 m, .bool z, .int .u64 (wd p 0 : Nat), .int .u64 (wd p 1 : Nat), .int .u64 (wd p 2 : Nat), .int .u64 (wd p 3 : Nat), .slice B n c] 27)) (.cells #[.slice none 0 0, .int .i64 0] 32)
  have HBa := Lib.hid (HB.out.keep hxp)
  have HPa := Lib.hid (Blk.newA (w := w.alloc (.cells #[.int .i64 k, .int .i64 m, .bool z, .int .u64 (wd p 0 : Nat), .int .u64 (wd p 1 : Nat), .int .u64 (wd p 2 : Nat), .int .u64 (wd p 3 : Nat), .slice B n c] 27)) (g := w.heap.size + 1) (by simp) 32 [.slice none 0 0, .int .i64 0])
  have HXa := Lib.hid (Ext.trans HX1.out hxp)
  have HVa := Lib.hid (HV.out.keep HXa.out)
  have HEa := Lib.hid (HE.out.keep HXa.out)
  clear hxp HB HX1 HV HE
  generalize (w.alloc (.cells #[.int .i64 k, .int .i64 m, .bool z, .int .u64 (wd p 0 : Nat), .int .u64 (wd p 1 : Nat), .int .u64 (wd p 2 : Nat), .int .u64 (wd p 3 : Nat), .slice B n c] 27)).alloc (.cells #[.slice none 0 0, .int .i64 0] 32) = wa at *
  rw [hgb] at HBa HPa ⊢
  clear hgb
  obtain ⟨b0, b1, b2, b3, b4, b5, b6, b7⟩ := HBa.out.cells
  by_cases hr : (t.right 1 0).1 = true
  · have h9 : (9 : Int) < (t.groups : Int) := by
      rcases HBAD.out with h | h
      · rw [hr] at h; cases h
      · have := h.2; omega
    have HK1 := Lib.hid (show K = 1 by rw [← HK.out, if_pos hr])
    have HR := Lib.hid hr
    have H9 := Lib.hid h9
    clear hr
    go_upto_region 5 with (first
      | (have := hx1; go_at_call 15; refine (rxGroups t.size t (Nat.le_refl _) (by have := HS.out; omega) _ _ _ (HVa.out.keep hx1)).mono ?_; rintro e w2 ⟨rfl, hx2⟩)
      | (go_at_call 13; refine (rxRight t (by have := HS.out; omega) _ _ _ HVa.out).mono ?_; rintro e w1 ⟨rfl, hx1⟩; rw [HR.out]; obtain ⟨d0, d1, d2, d3, d4, d5, d6, d7⟩ := (HBa.out.keep hx1).cells))
    have hx := Ext.trans hx1 hx2
    have HX := Lib.hid (Ext.trans HXa.out hx)
    have HP := Lib.hid (HPa.out.keep hx)
    have hEn := HEa.out.keep hx
    obtain ⟨e1, e2, e3, e4, e10, e14⟩ := hEn.facts
    have p0 : w2.cell? ⟨gb + 1, 0, none⟩ = some (.slice none 0 0) := HP.out.cell 0
    have p1 : w2.cell? ⟨gb + 1, 1, none⟩ = some (.int .i64 0) := HP.out.cell 1
    have f0 := HP.out.frozen 0
    have f1 := HP.out.frozen 1
    clear hEn hx hx1 hx2 b0 b1 b2 b3 b4 b5 b6 b7 d0 d1 d2 d3 d4 d5 d6 d7 e2 e3 e4 e10 e14
    have hne1 : ¬ gb + 1 = 1 := by intro e; have := p0; rw [e, e1] at this; simp [errV] at this
    have hne2 : ¬ 1 = gb + 1 := fun e => hne1 e.symm
    have q0 : (w2.setCell ⟨gb + 1, 0, none⟩ (.slice none 0 0)).cell? ⟨1, 0, none⟩ = some (errV E 1) := ((Chg.refl [gb + 1] w2).setCell (p := ⟨gb + 1, 0, none⟩) (by simp) _).cell e1 (fun hm => hne2 (List.mem_singleton.1 hm))
    have q1 : ((w2.setCell ⟨gb + 1, 0, none⟩ (.slice none 0 0)).setCell ⟨gb + 1, 1, none⟩ (.int .i64 0)).cell? ⟨1, 0, none⟩ = some (errV E 1) := (((Chg.refl [gb + 1] w2).setCell (p := ⟨gb + 1, 0, none⟩) (by simp) _).setCell (p := ⟨gb + 1, 1, none⟩) (by simp) _).cell e1 (fun hm => hne2 (List.mem_singleton.1 hm))
    go_region
    have hgw : w.heap.size ≤ gb + 1 := by have := HGB.out; omega
    have HPF := Lib.hid (((HP.out.set_ 0 (.slice none 0 0)).set_ 1 (.int .i64 0)).keep ((Below.refl _ _).drew))
    have HXF := Lib.hid (show Ext w ((w2.setCell ⟨gb + 1, 0, none⟩ (.slice none 0 0)).setCell ⟨gb + 1, 1, none⟩ (.int .i64 0)).drew from ((HX.out.setCell (p := ⟨gb + 1, 0, none⟩) hgw _).setCell (p := ⟨gb + 1, 1, none⟩) hgw _).drew)
    clear p0 p1 f0 f1 q0 q1 hne1 hne2 hgw e1
    generalize ((w2.setCell ⟨gb + 1, 0, none⟩ (.slice none 0 0)).setCell ⟨gb + 1, 1, none⟩ (.int .i64 0)).drew = w9 at *
    go_wp2
    refine bodyPost_ret (v := .tuple #[.agg ([.slice none 0 0, .int .i64 0] : List Value).toArray, errV E 1]) (results_pg2 rfl rfl HPF.out rfl rfl) rfl ⟨by rw [HK1.out], HXF.out⟩
  · have hr' : (t.right 1 0).1 = false := by cases h : (t.right 1 0).1; rfl; exact absurd h hr
    have HK1 := Lib.hid (show K = 4 by rw [← HK.out, if_neg hr])
    have HR := Lib.hid hr'
    clear hr hr'
    go_upto_region 2 with (go_at_call 13; refine (rxRight t (by have := HS.out; omega) _ _ _ HVa.out).mono ?_; rintro e w2 ⟨rfl, hx⟩; rw [HR.out])
    have HX := Lib.hid (Ext.trans HXa.out hx)
    have HP := Lib.hid (HPa.out.keep hx)
    have hEn := HEa.out.keep hx
    obtain ⟨e1, e2, e3, e4, e10, e14⟩ := hEn.facts
    have p0 : w2.cell? ⟨gb + 1, 0, none⟩ = some (.slice none 0 0) := HP.out.cell 0
    have p1 : w2.cell? ⟨gb + 1, 1, none⟩ = some (.int .i64 0) := HP.out.cell 1
    have f0 := HP.out.frozen 0
    have f1 := HP.out.frozen 1
    clear hEn hx b0 b1 b2 b3 b4 b5 b6 b7 e1 e2 e3 e10 e14
    have hne1 : ¬ gb + 1 = 0 := by intro e; have := p0; rw [e, e4] at this; simp [errV] at this
    have hne2 : ¬ 0 = gb + 1 := fun e => hne1 e.symm
    have q0 : (w2.setCell ⟨gb + 1, 0, none⟩ (.slice none 0 0)).cell? ⟨0, 0, none⟩ = some (errV E 4) := ((Chg.refl [gb + 1] w2).setCell (p := ⟨gb + 1, 0, none⟩) (by simp) _).cell e4 (fun hm => hne2 (List.mem_singleton.1 hm))
    have q1 : ((w2.setCell ⟨gb + 1, 0, none⟩ (.slice none 0 0)).setCell ⟨gb + 1, 1, none⟩ (.int .i64 0)).cell? ⟨0, 0, none⟩ = some (errV E 4) := (((Chg.refl [gb + 1] w2).setCell (p := ⟨gb + 1, 0, none⟩) (by simp) _).setCell (p := ⟨gb + 1, 1, none⟩) (by simp) _).cell e4 (fun hm => hne2 (List.mem_singleton.1 hm))
    go_region
    have hgw : w.heap.size ≤ gb + 1 := by have := HGB.out; omega
    have HPF := Lib.hid (((HP.out.set_ 0 (.slice none 0 0)).set_ 1 (.int .i64 0)).keep ((Below.refl _ _).drew))
    have HXF := Lib.hid (show Ext w ((w2.setCell ⟨gb + 1, 0, none⟩ (.slice none 0 0)).setCell ⟨gb + 1, 1, none⟩ (.int .i64 0)).drew from ((HX.out.setCell (p := ⟨gb + 1, 0, none⟩) hgw _).setCell (p := ⟨gb + 1, 1, none⟩) hgw _).drew)
    clear p0 p1 f0 f1 q0 q1 hne1 hne2 hgw e4
    generalize ((w2.setCell ⟨gb + 1, 0, none⟩ (.slice none 0 0)).setCell ⟨gb + 1, 1, none⟩ (.int .i64 0)).drew = w9 at *
    go_wp2
    refine bodyPost_ret (v := .tuple #[.agg ([.slice none 0 0, .int .i64 0] : List Value).toArray, errV E 4]) (results_pg2 rfl rfl HPF.out rfl rfl) rfl ⟨by rw [HK1.out], HXF.out⟩
end Go.Proofs.YtdhmfgaiomfodaaDoor
