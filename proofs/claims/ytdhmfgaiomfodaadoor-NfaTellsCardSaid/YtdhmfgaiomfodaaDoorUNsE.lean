/- Put together: Nf7, Nf8. -/
import Derived.Test.YtdhmfgaiomfodaaDoorUNsC
import Derived.Test.YtdhmfgaiomfodaaDoorUNsA
import Derived.Deep.LoopGhost
import Derived.Deep.DeepCutAuto
namespace Go.Proofs.YtdhmfgaiomfodaaDoor
open Go Go.RowKit
attribute [local irreducible] wd

theorem ins_size : (Tryd.prog.info? 64).map (·.size) = some 8 := by kernel_rfl
theorem store_ins {w : World} {ops : Array Oper} {rest : List Oper} {o : Oper} {a : Act} {Q : Exit → Act → World → Prop} (hgd : o.guard = none) (x y : Operand) (ho : o.op = .store 64 x y)
    {g : Nat} {old : List Value} (new : List Value) (hx : a.eval x = .pointer (some ⟨g, 0, none⟩)) (hy : a.eval y = .agg new.toArray) (hg : Blk w g 64 old) (h8 : old.length = 8) (n8 : new.length = 8) (h1 : new.all (·.oneCell') = true)
    (h : wpList Tryd.prog ops Q rest (a.put o.dst undef) (w.setRow g new.toArray)) : wpList Tryd.prog ops Q (o :: rest) a w :=
  wpList_store_row hgd _ x y ho g new.toArray hx hy _ old.toArray hg (by rw [List.size_toArray, n8]; exact ins_size) (by rw [List.size_toArray, List.size_toArray, h8, n8]) (by simpa using h1) h
theorem results_ins {fn : Func} {p : Tmp} (h : fn.results = #[.cell p 64]) {tmps : Array Value} {w : World} {g : Nat} {cs : List Value}
    (hp : tmps.getD p undef = .pointer (some ⟨g, 0, none⟩)) (hg : Blk w g 64 cs) (h8 : cs.length = 8) : (results fn tmps).run Tryd.prog w = .ok (.agg cs.toArray) w := by
  have hp' : tmps[p]?.getD undef = .pointer (some ⟨g, 0, none⟩) := by simpa using hp
  have hl : (loadVar 64 ⟨g, 0, none⟩).run Tryd.prog w = .ok (.agg cs.toArray) w :=
    run_loadVar_row w g _ _ cs.toArray (0, 0) _ hg Tryd.underlying64 rfl (by rw [List.size_toArray, h8]; exact ins_size)
  simp [results, h, hp', asAddr, hl]

/-- An instruction with what its kind has alone. -/
def Ins.bareOK (i : Ins) : Prop := (i.op = 1 ∧ i.x = 0 ∧ i.y = 0 ∧ i.n = 0) ∨ (i.op = 2 ∧ i.y = 0 ∧ i.n = 0 ∧ i.set = fun _ => false) ∨ (i.op = 3 ∧ i.n = 0 ∧ i.set = fun _ => false) ∨ (i.op = 4 ∧ i.x = 0 ∧ i.y = 0 ∧ i.set = fun _ => false) ∨ (i.op = 5 ∧ i.x = 0 ∧ i.y = 0 ∧ i.n = 0 ∧ i.set = fun _ => false)

/-- An instruction's cells. -/
theorem code_cellsN {w : World} {A : Option Addr} {c : List Ins} (h : Rd w 8 A c.length (codeV c)) {pc : Nat} {i : Ins} (hi : c[pc]? = some i) : ∃ b o, A = some ⟨b, o, none⟩ ∧ ∀ j u, (insV i)[j]? = some u → w.cell? ⟨b, o + (pc * 8 + j), none⟩ = some u := by
  have hlt := (List.getElem?_eq_some_iff.1 hi).1
  obtain ⟨b, o, e, _, hc⟩ := h.2 (by rw [codeV_len]; omega)
  refine ⟨b, o, e, fun j u hu => ?_⟩
  have hj := (List.getElem?_eq_some_iff.1 hu).1
  have h8 : (insV i).length = 8 := rfl
  have e2 : (codeV c)[pc * 8 + j]? = some u := by
    have e3 : c = c.take pc ++ i :: c.drop (pc + 1) := by
      obtain ⟨_, rfl⟩ := List.getElem?_eq_some_iff.1 hi
      rw [← List.drop_eq_getElem_cons hlt, List.take_append_drop]
    have hl : (c.take pc).length = pc := by rw [List.length_take]; omega
    have e4 : codeV c = codeV (c.take pc) ++ (insV i ++ codeV (c.drop (pc + 1))) := by
      conv => lhs; rw [e3]
      rw [codeV_app]; rfl
    rw [e4, List.getElem?_append_right (by rw [codeV_len, hl]; omega), codeV_len, hl, Nat.add_sub_cancel_left, List.getElem?_append_left (by omega)]
    exact hu
  exact hc _ _ e2
/-- A right instruction of so many, with so many groups. -/
structure InsOK (i : Ins) (many G : Nat) : Prop where
  lo : 1 ≤ i.op
  hi : i.op ≤ 5
  x0 : 0 ≤ i.x
  x1 : i.x < many
  y0 : 0 ≤ i.y
  y1 : i.y < many
  sv : i.op = 4 → 2 ≤ i.n ∧ i.n ≤ 2 * (G : Int) + 1
  ba : i.bareOK

end Go.Proofs.YtdhmfgaiomfodaaDoor
namespace Go.Proofs.YtdhmfgaiomfodaaDoor
open Go Go.RowKit
attribute [local irreducible] wd

set_option maxHeartbeats 8000000 in
set_option maxRecDepth 20000 in
theorem nfCompileBad (E : Nat → Addr) (t : T) (hbad : (t.right 1 0).1 = false ∨ ((t.right 1 0).1 = true ∧ 9 < t.groups)) (hs : t.size ≤ 100) (S : Nat → Prop) (w : World) (nv : List Value) (hv : NodeV S w t nv) (hE : Env E w) :
    Calls Tryd.prog 12 #[.agg nv.toArray] w fun e w' => e = .returned (.tuple #[.agg #[.slice none 0 0, .int .i64 0], errV E (if (t.right 1 0).1 = true then 1 else 4)]) ∧ Ext w w' := by
  obtain ⟨k, m, z, p, B, n, c, rfl⟩ := nodeV_form hv
  have hx1 := Ext.new1 w (.cells (nodeC k m z p B n c).toArray 27)
  have HB := Lib.hid (NodeB.new w k m z p B n c)
  have HS := Lib.hid hs
  have HX1 := Lib.hid hx1
  have HV := Lib.hid (show NodeV (fun b => b < w.heap.size) w t _ from hv.mono (fun b hb _ => hb))
  have HE := Lib.hid hE
  have HBAD := Lib.hid hbad
  clear hv hs hx1 hE hbad
  unfold nodeC at HB HX1 HV ⊢
  obtain ⟨K, hK⟩ : ∃ K, (if (t.right 1 0).1 = true then 1 else 4) = K := ⟨_, rfl⟩
  have HK := Lib.hid hK
  rw [hK]
  clear hK
  go_enter Tryd.func12, Tryd.ntmps12
  go_upto_region 1 with fail
  obtain ⟨gb, hgb⟩ : ∃ gb, w.heap.size = gb := ⟨_, rfl⟩
  have HGB := Lib.hid hgb
  have hxp := Ext.new1 (w.alloc (.cells #[.int .i64 k, .int .i64 m, .bool z, .int .u64 (wd p 0 : Nat), .int .u64 (wd p 1 : Nat), .int .u64 (wd p 2 : Nat), .int .u64 (wd p 3 : Nat), .slice B n c] 27)) (.cells #[.slice none 0 0, .int .i64 0] 32)
  have HBa := Lib.hid (HB.out.keep hxp)
  have HPa := Lib.hid (Blk.newA (w := w.alloc (.cells #[.int .i64 k, .int .i64 m, .bool z, .int .u64 (wd p 0 : Nat), .int .u64 (wd p 1 : Nat), .int .u64 (wd p 2 : Nat), .int .u64 (wd p 3 : Nat), .slice B n c] 27)) (g := w.heap.size + 1) (by simp) 32 [.slice none 0 0, .int .i64 0])
  have HXa := Lib.hid (Ext.trans HX1.out hxp)
  have HVa := Lib.hid (HV.out.keep HXa.out)
  have HEa := Lib.hid (HE.out.keep HXa.out)
  clear hxp HB HX1 HV HE
  generalize (w.alloc (.cells #[.int .i64 k, .int .i64 m, .bool z, .int .u64 (wd p 0 : Nat), .int .u64 (wd p 1 : Nat), .int .u64 (wd p 2 : Nat), .int .u64 (wd p 3 : Nat), .slice B n c] 27)).alloc (.cells #[.slice none 0 0, .int .i64 0] 32) = wa at *
  rw [hgb] at HBa HPa ⊢
  clear hgb
  obtain ⟨b0, b1, b2, b3, b4, b5, b6, b7⟩ := HBa.out.cells
  by_cases hr : (t.right 1 0).1 = true
  · have h9 : (9 : Int) < (t.groups : Int) := by
      rcases HBAD.out with h | h
      · rw [hr] at h; cases h
      · have := h.2; omega
    have HK1 := Lib.hid (show K = 1 by rw [← HK.out, if_pos hr])
    have HR := Lib.hid hr
    have H9 := Lib.hid h9
    clear hr
    go_upto_region 5 with (first
      | (have := hx1; go_at_call 15; refine (rxGroups t.size t (Nat.le_refl _) (by have := HS.out; omega) _ _ _ (HVa.out.keep hx1)).mono ?_; rintro e w2 ⟨rfl, hx2⟩)
      | (go_at_call 13; refine (rxRight t (by have := HS.out; omega) _ _ _ HVa.out).mono ?_; rintro e w1 ⟨rfl, hx1⟩; rw [HR.out]; obtain ⟨d0, d1, d2, d3, d4, d5, d6, d7⟩ := (HBa.out.keep hx1).cells))
    have hx := Ext.trans hx1 hx2
    have HX := Lib.hid (Ext.trans HXa.out hx)
    have HP := Lib.hid (HPa.out.keep hx)
    have hEn := HEa.out.keep hx
    obtain ⟨e1, e2, e3, e4, e10, e14⟩ := hEn.facts
    have p0 : w2.cell? ⟨gb + 1, 0, none⟩ = some (.slice none 0 0) := HP.out.cell 0
    have p1 : w2.cell? ⟨gb + 1, 1, none⟩ = some (.int .i64 0) := HP.out.cell 1
    have f0 := HP.out.frozen 0
    have f1 := HP.out.frozen 1
    clear hEn hx hx1 hx2 b0 b1 b2 b3 b4 b5 b6 b7 d0 d1 d2 d3 d4 d5 d6 d7 e2 e3 e4 e10 e14
    have hne1 : ¬ gb + 1 = 1 := by intro e; have := p0; rw [e, e1] at this; simp [errV] at this
    have hne2 : ¬ 1 = gb + 1 := fun e => hne1 e.symm
    have q0 : (w2.setCell ⟨gb + 1, 0, none⟩ (.slice none 0 0)).cell? ⟨1, 0, none⟩ = some (errV E 1) := ((Chg.refl [gb + 1] w2).setCell (p := ⟨gb + 1, 0, none⟩) (by simp) _).cell e1 (fun hm => hne2 (List.mem_singleton.1 hm))
    have q1 : ((w2.setCell ⟨gb + 1, 0, none⟩ (.slice none 0 0)).setCell ⟨gb + 1, 1, none⟩ (.int .i64 0)).cell? ⟨1, 0, none⟩ = some (errV E 1) := (((Chg.refl [gb + 1] w2).setCell (p := ⟨gb + 1, 0, none⟩) (by simp) _).setCell (p := ⟨gb + 1, 1, none⟩) (by simp) _).cell e1 (fun hm => hne2 (List.mem_singleton.1 hm))
    go_region
    have hgw : w.heap.size ≤ gb + 1 := by have := HGB.out; omega
    have HPF := Lib.hid (((HP.out.set_ 0 (.slice none 0 0)).set_ 1 (.int .i64 0)).keep ((Below.refl _ _).drew))
    have HXF := Lib.hid (show Ext w ((w2.setCell ⟨gb + 1, 0, none⟩ (.slice none 0 0)).setCell ⟨gb + 1, 1, none⟩ (.int .i64 0)).drew from ((HX.out.setCell (p := ⟨gb + 1, 0, none⟩) hgw _).setCell (p := ⟨gb + 1, 1, none⟩) hgw _).drew)
    clear p0 p1 f0 f1 q0 q1 hne1 hne2 hgw e1
    generalize ((w2.setCell ⟨gb + 1, 0, none⟩ (.slice none 0 0)).setCell ⟨gb + 1, 1, none⟩ (.int .i64 0)).drew = w9 at *
    go_wp2
    refine bodyPost_ret (v := .tuple #[.agg ([.slice none 0 0, .int .i64 0] : List Value).toArray, errV E 1]) (results_pg2 rfl rfl HPF.out rfl rfl) rfl ⟨by rw [HK1.out], HXF.out⟩
  · have hr' : (t.right 1 0).1 = false := by cases h : (t.right 1 0).1; rfl; exact absurd h hr
    have HK1 := Lib.hid (show K = 4 by rw [← HK.out, if_neg hr])
    have HR := Lib.hid hr'
    clear hr hr'
    go_upto_region 2 with (go_at_call 13; refine (rxRight t (by have := HS.out; omega) _ _ _ HVa.out).mono ?_; rintro e w2 ⟨rfl, hx⟩; rw [HR.out])
    have HX := Lib.hid (Ext.trans HXa.out hx)
    have HP := Lib.hid (HPa.out.keep hx)
    have hEn := HEa.out.keep hx
    obtain ⟨e1, e2, e3, e4, e10, e14⟩ := hEn.facts
    have p0 : w2.cell? ⟨gb + 1, 0, none⟩ = some (.slice none 0 0) := HP.out.cell 0
    have p1 : w2.cell? ⟨gb + 1, 1, none⟩ = some (.int .i64 0) := HP.out.cell 1
    have f0 := HP.out.frozen 0
    have f1 := HP.out.frozen 1
    clear hEn hx b0 b1 b2 b3 b4 b5 b6 b7 e1 e2 e3 e10 e14
    have hne1 : ¬ gb + 1 = 0 := by intro e; have := p0; rw [e, e4] at this; simp [errV] at this
    have hne2 : ¬ 0 = gb + 1 := fun e => hne1 e.symm
    have q0 : (w2.setCell ⟨gb + 1, 0, none⟩ (.slice none 0 0)).cell? ⟨0, 0, none⟩ = some (errV E 4) := ((Chg.refl [gb + 1] w2).setCell (p := ⟨gb + 1, 0, none⟩) (by simp) _).cell e4 (fun hm => hne2 (List.mem_singleton.1 hm))
    have q1 : ((w2.setCell ⟨gb + 1, 0, none⟩ (.slice none 0 0)).setCell ⟨gb + 1, 1, none⟩ (.int .i64 0)).cell? ⟨0, 0, none⟩ = some (errV E 4) := (((Chg.refl [gb + 1] w2).setCell (p := ⟨gb + 1, 0, none⟩) (by simp) _).setCell (p := ⟨gb + 1, 1, none⟩) (by simp) _).cell e4 (fun hm => hne2 (List.mem_singleton.1 hm))
    go_region
    have hgw : w.heap.size ≤ gb + 1 := by have := HGB.out; omega
    have HPF := Lib.hid (((HP.out.set_ 0 (.slice none 0 0)).set_ 1 (.int .i64 0)).keep ((Below.refl _ _).drew))
    have HXF := Lib.hid (show Ext w ((w2.setCell ⟨gb + 1, 0, none⟩ (.slice none 0 0)).setCell ⟨gb + 1, 1, none⟩ (.int .i64 0)).drew from ((HX.out.setCell (p := ⟨gb + 1, 0, none⟩) hgw _).setCell (p := ⟨gb + 1, 1, none⟩) hgw _).drew)
    clear p0 p1 f0 f1 q0 q1 hne1 hne2 hgw e4
    generalize ((w2.setCell ⟨gb + 1, 0, none⟩ (.slice none 0 0)).setCell ⟨gb + 1, 1, none⟩ (.int .i64 0)).drew = w9 at *
    go_wp2
    refine bodyPost_ret (v := .tuple #[.agg ([.slice none 0 0, .int .i64 0] : List Value).toArray, errV E 4]) (results_pg2 rfl rfl HPF.out rfl rfl) rfl ⟨by rw [HK1.out], HXF.out⟩
end Go.Proofs.YtdhmfgaiomfodaaDoor
