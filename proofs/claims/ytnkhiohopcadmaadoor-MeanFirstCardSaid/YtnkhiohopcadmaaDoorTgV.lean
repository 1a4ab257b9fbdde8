/- Put together: Dn8p, Dn8h, Dn9. -/
import Derived.Test.YtnkhiohopcadmaaDoorTgQ
import Derived.Test.YtnkhiohopcadmaaDoorTgS
import Derived.BigQuiet
import Derived.Test.YtnkhiohopcadmaaDoorTgA
namespace Go.Proofs.YtnkhiohopcadmaaDoor
open Go Go.RowKit

mutual
/-- Right, but for the groups' numbers. -/
def fineF : T → Nat → Bool
  | .node k m z p ks, d => !decide (40 < d) && kidsOk k ks.length && bareB k m z p && fineL ks (d + 1) && (!(decide (k = 5 ∨ k = 6)) || !headN ks)
def fineL : List T → Nat → Bool
  | [], _ => true
  | t :: ts, d => fineF t d && fineL ts d
end
mutual
def numsT : T → List Int
  | .node k m _ _ ks => (if k = 8 then [m] else []) ++ numsL ks
def numsL : List T → List Int
  | [] => []
  | t :: ts => numsT t ++ numsL ts
end
def rng (g n : Nat) : List Int := (List.range' (g + 1) n).map fun x : Nat => (x : Int)
theorem rng_len (g n : Nat) : (rng g n).length = n := by unfold rng; simp
theorem rng_zero (g : Nat) : rng g 0 = [] := rfl
theorem rng_add (g a b : Nat) : rng g (a + b) = rng g a ++ rng (g + a) b := by
  unfold rng
  rw [← List.map_append]
  congr 1
  rw [show g + a + 1 = (g + 1) + 1 * a by omega]
  exact (List.range'_append ..).symm
theorem rng_one (g : Nat) : rng g 1 = [(g : Int) + 1] := by unfold rng; simp
mutual
theorem nums_len : ∀ t : T, (numsT t).length = t.groups
  | .node k m z p ks => by
    rw [numsT, T.groups, List.length_append, numsL_len ks]
    split <;> simp
theorem numsL_len : ∀ ks : List T, (numsL ks).length = groupsL ks
  | [] => by rw [numsL, groupsL]; rfl
  | t :: ts => by rw [numsL, groupsL, List.length_append, nums_len t, numsL_len ts]
end
theorem append_rng {a b : List Int} {g n m : Nat} (ha : a.length = n) : a ++ b = rng g (n + m) ↔ a = rng g n ∧ b = rng (g + n) m := by
  rw [rng_add]
  constructor
  · intro h
    exact List.append_inj h (by rw [ha, rng_len])
  · rintro ⟨rfl, rfl⟩; rfl
theorem right_eq {k m : Int} {z : Bool} {p : Nat → Bool} {ks : List T} {d g : Nat} : (T.right (.node k m z p ks) d g).1 = (!decide (40 < d) && kidsOk k ks.length && bareB k m z p && (!decide (k = 8) || decide (m = (g : Int) + 1)) && (rightL ks (d + 1) (if k = 8 then g + 1 else g)).1 && (!(decide (k = 5 ∨ k = 6)) || !headN ks)) := by
  unfold T.right
  by_cases h1 : 40 < d ∨ kidsOk k ks.length = false ∨ bareB k m z p = false
  · rw [if_pos h1]
    rcases h1 with h | h | h
    · simp [h]
    · simp [h]
    · simp [h]
  · rw [if_neg h1]
    simp only [not_or, Bool.not_eq_false] at h1
    by_cases h2 : k = 8 ∧ m ≠ (g : Int) + 1
    · rw [if_pos h2]
      have h3 : decide (m = (g : Int) + 1) = false := decide_eq_false h2.2
      rw [h3, decide_eq_true h2.1]
      simp
    · rw [if_neg h2]
      have h3 : (!decide (k = 8) || decide (m = (g : Int) + 1)) = true := by
        by_cases h8 : k = 8
        · have : m = (g : Int) + 1 := by
            by_cases e : m = (g : Int) + 1
            · exact e
            · exact absurd ⟨h8, e⟩ h2
          simp [this]
        · simp [h8]
      rw [h3, h1.2.1, h1.2.2, decide_eq_false h1.1]
      simp
mutual
theorem right_iff : ∀ (t : T) (d g : Nat), (t.right d g).1 = true ↔ fineF t d = true ∧ numsT t = rng g t.groups
  | .node k m z p ks, d, g => by
    rw [right_eq, fineF, numsT, T.groups]
    have hL := rightL_iff ks (d + 1) (if k = 8 then g + 1 else g)
    simp only [Bool.and_eq_true, hL]
    by_cases h8 : k = 8
    · subst h8
      simp only [if_true, Int.reduceEq, or_self, decide_true, decide_false, Bool.not_true, Bool.not_false, Bool.false_or, Bool.true_or, decide_eq_true_eq, and_true]
      rw [append_rng (n := 1) rfl, rng_one]
      constructor
      · rintro ⟨⟨h1, h2⟩, h3, h4⟩; exact ⟨⟨h1, h3⟩, by rw [h2], h4⟩
      · rintro ⟨⟨h1, h3⟩, h2, h4⟩; exact ⟨⟨h1, by injection h2⟩, h3, h4⟩
    · simp only [h8, if_false, decide_false, Bool.not_false, Bool.true_or, and_true, List.nil_append, Nat.zero_add]
      constructor
      · rintro ⟨⟨h1, h3, h4⟩, h5⟩; exact ⟨⟨⟨h1, h3⟩, h5⟩, h4⟩
      · rintro ⟨⟨⟨h1, h3⟩, h5⟩, h4⟩; exact ⟨⟨h1, h3, h4⟩, h5⟩
theorem rightL_iff : ∀ (ks : List T) (d g : Nat), (rightL ks d g).1 = true ↔ fineL ks d = true ∧ numsL ks = rng g (groupsL ks)
  | [], d, g => by rw [rightL, fineL, numsL, groupsL, rng_zero]; simp
  | t :: ts, d, g => by
    have h1 := right_iff t d g
    have hc := right_count t d g
    rw [rightL, fineL, numsL, groupsL, Bool.and_eq_true, append_rng (nums_len t)]
    by_cases h : (t.right d g).1 = true
    · rw [if_pos h, hc h, rightL_iff ts d (g + t.groups)]
      have := h1.1 h
      constructor
      · rintro ⟨h3, h4⟩; exact ⟨⟨this.1, h3⟩, this.2, h4⟩
      · rintro ⟨⟨_, h3⟩, _, h4⟩; exact ⟨h3, h4⟩
    · rw [if_neg h]
      constructor
      · intro h3; cases h3
      · rintro ⟨⟨h3, _⟩, h4, _⟩; exact absurd (h1.2 ⟨h3, h4⟩) h
end
/-- As the document tells it. -/
theorem right_doc (t : T) : (t.right 1 0).1 = (fineF t 1 && decide (numsT t = rng 0 (numsT t).length)) := by
  rw [Bool.eq_iff_iff, right_iff, Bool.and_eq_true, decide_eq_true_eq, nums_len]
end Go.Proofs.YtnkhiohopcadmaaDoor
namespace Go.Proofs.YtnkhiohopcadmaaDoor
open Go Go.RowKit

def FineOK (n : Nat) : Prop := ∀ t : T, t.size ≤ n → ∀ S w v (d : Nat), DNodeV S w t v → d ≤ 41 → Calls Tryd.prog 37 #[.agg v.toArray, .int .i64 (d : Nat)] w fun e w' => e = .returned (.bool (fineF t d)) ∧ Ext w w'
theorem built_set0 : Tryd.prog.built 31 [] = some (bcs (fun _ => false)) := by
  rw [← zero28]
  kernel_rfl
theorem run_build_set0 (w : World) : (Instr.build 31 #[]).run Tryd.prog w = .ok (.agg (bcs (fun _ => false))) w := run_build w 31 #[] _ built_set0
theorem wp_build0 {op : Oper} {a : Act} {w : World} {K : Act → World → Prop} {Q : Exit → Act → World → Prop} (ho : op.op = .build 31 #[]) (h : K (a.put op.dst (.agg (bcs (fun _ => false)))) w) : op.wp Tryd.prog a w K Q := by
  have e : (Array.map (fun (y : Nat × Operand) => (y.1, a.eval y.2)) #[]).toList = [] := by simp
  refine wp_build 31 #[] ho (by rw [e, built_set0]; rfl) ?_
  rw [e, built_set0]
  exact h
theorem wp_dset {op : Oper} {a : Act} {w : World} {K : Act → World → Prop} {Q : Exit → Act → World → Prop} (x : Operand) (ho : op.op = .load 31 x) {g : Nat} {k m : Int} {z : Bool} {p : Nat → Bool} {A : Option Addr} {n c : Nat}
    (hx : a.eval x = .pointer (some ⟨g, 3, none⟩)) (hg : DB w g k m z p A n c) (h : K (a.put op.dst (.agg (bcs p))) w) : op.wp Tryd.prog a w K Q :=
  wp_load_mid _ x ho g 3 hx _ _ hg.set Tryd.underlying31 rfl (by rw [Array.length_toList, bcs_size]; exact set_size) (by rw [Array.toArray_toList]; exact h)
theorem run_dset {w : World} {g : Nat} {k m : Int} {z : Bool} {p : Nat → Bool} {A : Option Addr} {n c : Nat} (h : DB w g k m z p A n c) : (loadCellsFrom ⟨g, 3, none⟩ 0 256 #[]).run Tryd.prog w = .ok (bcs p) w := by
  have := run_loadCells_list (P := Tryd.prog) w ⟨g, 3, none⟩ (bcs p).toList (fun j v hv => by rw [Addr.add_mid]; exact h.set j v hv)
  rw [Array.length_toList, bcs_size, Array.toArray_toList] at this
  simpa [loadCells] using this
theorem wp_el {op : Oper} {a : Act} {w : World} {K : Act → World → Prop} {Q : Exit → Act → World → Prop} (x : Operand) (ho : op.op = .load 34 x) {b q : Nat} {k m : Int} {z : Bool} {p : Nat → Bool} {A : Option Addr} {n c : Nat}
    (hx : a.eval x = .pointer (some ⟨b, q, none⟩)) (hg : w.rangeAt b q (dnC k m z p A n c)) (h : K (a.put op.dst (.agg (dnC k m z p A n c).toArray)) w) : op.wp Tryd.prog a w K Q :=
  wp_load_mid _ x ho b q hx _ _ hg Tryd.underlying34 rfl (by rw [dn_len]; exact dn_size) h
theorem sameP_zero (p : Nat → Bool) : sameP p (fun _ => false) = noneB p := by
  rw [Bool.eq_iff_iff, sameP_iff, noneB_iff]
theorem fineL_append (a b : List T) (d : Nat) : fineL (a ++ b) d = (fineL a d && fineL b d) := by
  induction a with
  | nil => simp [fineL]
  | cons x r ih => simp only [List.cons_append, fineL, ih, Bool.and_assoc]
theorem fineL_mem {ks : List T} {d : Nat} (h : fineL ks d = true) {t : T} (ht : t ∈ ks) : fineF t d = true := by
  induction ks with
  | nil => cases ht
  | cons x r ih =>
    rw [fineL, Bool.and_eq_true] at h
    rcases List.mem_cons.1 ht with rfl | ht
    · exact h.1
    · exact ih h.2 ht
end Go.Proofs.YtnkhiohopcadmaaDoor
namespace Go.Proofs.YtnkhiohopcadmaaDoor
open Go Go.RowKit

theorem numsL_append (a b : List T) : numsL (a ++ b) = numsL a ++ numsL b := by
  induction a with
  | nil => simp [numsL]
  | cons x r ih => simp only [List.cons_append, numsL, ih, List.append_assoc]

set_option maxHeartbeats 8000000 in
set_option maxRecDepth 20000 in
theorem refNumbers : ∀ n, ∀ t : T, t.size ≤ n → t.size ≤ 1000000 → ∀ S w v, DNodeV S w t v →
    Calls Tryd.prog 38 #[.agg v.toArray] w fun e w' => ∃ v9, e = .returned v9 ∧ w'.ownsRow w.heap.size 3 1 v9 t.groups (intsV (numsT t)) ∧ Ext w w' := by
  intro n
  induction n with
  | zero => intro t ht; have := size_pos t; omega
  | succ n ih =>
    intro t ht hsz S w v h
    cases t with
    | node k m z p ks =>
      obtain ⟨A, c, cs, rfl, h1, h2, h3, h5⟩ := h.kids
      have hgr := groups_le (.node k m z p ks)
      rw [size_node] at ht hsz hgr
      have hlk := sizeL_len ks
      have hx0 := Lib.hid (Ext.new1 w (.cells (dnC k m z p A ks.length c).toArray 34))
      have hxE := Ext.new1 (w.alloc (.cells (dnC k m z p A ks.length c).toArray 34)) (.cells #[] 3)
      have HX1 := Lib.hid (Ext.trans hx0.out hxE)
      have HR := Lib.hid h3
      have HK := Lib.hid h5
      have HB0 := Lib.hid ((DB.new w k m z p A ks.length c).keep hxE)
      have HO0 := Lib.hid (own_empty (w.alloc (.cells (dnC k m z p A ks.length c).toArray 34)) 3 1)
      rw [show (w.alloc (.cells (dnC k m z p A ks.length c).toArray 34)).heap.size = w.heap.size + 1 by simp] at HO0
      have HKS := Lib.hid (show ∀ x ∈ ks, x.size ≤ n ∧ x.size ≤ 1000000 ∧ x.groups ≤ 1000000 from fun x hx => by
        have h1 := sizeL_mem hx
        have h2 := groups_le x
        exact ⟨by omega, by omega, by omega⟩)
      have HGL := Lib.hid (show groupsL ks ≤ 1000000 by have := groupsL_le ks; omega)
      obtain ⟨pre, hpre⟩ : ∃ pre : List Int, (if k = 8 then [m] else []) = pre := ⟨_, rfl⟩
      have HNT := Lib.hid (show numsT (.node k m z p ks) = pre ++ numsL ks by rw [numsT, hpre])
      have HGC := Lib.hid (show (T.node k m z p ks).groups = (pre ++ numsL ks).length by rw [← nums_len, HNT.out])
      have HPL := Lib.hid (show pre.length ≤ 1 by rw [← hpre]; split <;> simp)
      have HLN := Lib.hid (show ks.length ≤ 1000000 by omega)
      have hkc : (k = 8 ∧ pre = [m]) ∨ (¬ k = 8 ∧ pre = []) := by
        by_cases h : k = 8
        · rw [if_pos h] at hpre; exact .inl ⟨h, hpre.symm⟩
        · rw [if_neg h] at hpre; exact .inr ⟨h, hpre.symm⟩
      have HKC := Lib.hid hkc
      rw [HGC.out, HNT.out]
      clear h3 h5 h hxE ht hsz hgr hpre hkc hlk
      go_enter Tryd.func38, Tryd.ntmps38
      go_upto_region 2 with fail
      generalize World.alloc _ (.cells #[] 3) = wb at *
      obtain ⟨B0, hB0⟩ : ∃ B0, w.heap.size + 1 = B0 := ⟨_, rfl⟩
      have HBE := Lib.hid hB0
      have HGE := Lib.hid (show w.heap.size ≤ B0 by omega)
      rw [hB0] at HO0 ⊢
      clear hB0
      obtain ⟨g0, hg0⟩ : ∃ g0, w.heap.size = g0 := ⟨_, rfl⟩
      have HG0 := Lib.hid hg0
      rw [hg0] at HB0 HBE HGE ⊢
      clear hg0
      have HSB0 := Lib.hid (show B0 ≤ wb.heap.size by have := (HO0.out.lt B0 rfl).2; omega)
      -- ON
      rcases HKC.out with ⟨rfl, hp⟩ | ⟨hk8, hp⟩
      focus
        have y0 := HB0.out.kind
        have y1 := HB0.out.num
        have hxA := Ext.new1 wb (.cells #[.int .i64 m] 3)
        have HOA := Lib.hid (own_ext HO0.out hxA)
        have HRA := Lib.hid (show Rd (wb.alloc (.cells #[.int .i64 m] 3)) 1 (some ⟨wb.heap.size, 0, none⟩) 1 (intsV [m]) from rd_newS wb 1 1 (intsV [m]) 3 rfl)
        have HSA := Lib.hid (show B0 ≤ (wb.alloc (.cells #[.int .i64 m] 3)).heap.size by have := HSB0.out; simp; omega)
        have HXA := Lib.hid (Ext.trans HX1.out hxA)
        have HDA := Lib.hid (HB0.out.keep hxA)
        clear hxA
        go_upto_region 4 with (refine wpList_app2 Tryd.elemI rfl (.tmp 10) (.tmp 13) rfl (v := .slice (some ⟨B0, 0, none⟩) 0 0) (n := 0) rfl HOA.out HSA.out (A := some ⟨wb.heap.size, 0, none⟩) (m := 1) (c := 1) rfl HRA.out (one_intsV _) (by omega) (by unfold maxLen; omega) ?_; intro v7 w7 hown7 hgr7 _ _)
        clear y0 y1
        have HOW := Lib.hid (show w7.ownsRow B0 3 1 v7 pre.length (intsV pre) from by rw [hp]; exact hown7)
        have HXW := Lib.hid (show Ext w w7 from (grew_chg hgr7).below HXA.out HXA.out.size (fun y hy => by simp [Value.ownBlock] at hy; have := HGE.out; have := HG0.out; omega))
        have HDB := Lib.hid (show DB w7 g0 8 m z p A ks.length c from Blk.grew HDA.out hgr7 (fun e => by simp [Value.ownBlock] at e; have := HBE.out; omega))
        have HSZ := Lib.hid (Nat.le_trans HSA.out hgr7.size)
        clear hown7 hgr7 hp HOA HRA HSA HXA HDA
        clear HO0 HX1 HB0 HSB0
        have y7 := HDB.out.kids
        go_wp2
        clear y7
        go_loopg [3, 18] (ks.length) (fun gg ov iv wr => ∃ i : Nat, i ≤ ks.length ∧ gg = ks.length - i ∧ wr.ownsRow B0 3 1 ov (pre ++ numsL (ks.take i)).length (intsV (pre ++ numsL (ks.take i))) ∧ iv = .int .i64 (i : Nat) ∧ Ext w wr ∧ DB wr g0 8 m z p A ks.length c ∧ B0 ≤ wr.heap.size)
        case atStart => exact ⟨0, by omega, rfl, by rw [List.take_zero, numsL, List.append_nil]; exact HOW.out, rfl, HXW.out, HDB.out, HSZ.out⟩
        case round =>
          obtain ⟨i, hi, rfl, hown, rfl, hx, hdb, hsz0⟩ := hrel
          clear HOW HXW HDB HSZ
          have HOWN := Lib.hid hown
          have HDB := Lib.hid hdb
          have HSZ0 := Lib.hid hsz0
          clear hown hdb hsz0
          by_cases hlt : i < ks.length
          · obtain ⟨b, o, k', m', z', p', B', n', c', rfl, hv, hk⟩ := dkid_at HR.out HK.out hlt
            have hrg := Lib.hid (hk.out wr hx)
            have hw2 : IntKind.i64.wrap ((i : Int) + 1) = (i : Int) + 1 := wrap_id (by have := HLN.out; omega) (by have := HLN.out; omega)
            have hlt' : (i : Int) < (ks.length : Int) := by omega
            have hxb := Ext.new1 wr (.cells (dnC k' m' z' p' B' n' c').toArray 34)
            obtain ⟨x, hxe⟩ : ∃ x, ks[i]'hlt = x := ⟨_, rfl⟩
            have hmx : x ∈ ks := hxe ▸ List.getElem_mem hlt
            have HV := Lib.hid (show DNodeV S _ x _ from hxe ▸ (hv.keep hx).keep hxb)
            have HKX := Lib.hid (HKS.out x hmx)
            have HTT := Lib.hid (show pre ++ numsL (ks.take (i + 1)) = (pre ++ numsL (ks.take i)) ++ numsT x by rw [List.take_succ_eq_append_getElem hlt, hxe, numsL_append, numsL, numsL, List.append_nil, List.append_assoc])
            obtain ⟨X, hX⟩ : ∃ X, pre ++ numsL (ks.take i) = X := ⟨_, rfl⟩
            have hXl : X.length ≤ 1000001 := by
              have h1 := HPL.out
              have h2 := HGL.out
              have h3 := groupsL_take_le ks i
              rw [← hX, List.length_append, numsL_len]
              omega
            have HXL := Lib.hid hXl
            rw [hX] at HOWN HTT
            have HXK := Lib.hid (Ext.trans hx hxb)
            have HDBK := Lib.hid (HDB.out.keep hxb)
            have HOWNK := Lib.hid (own_ext HOWN.out hxb)
            have HSZK := Lib.hid (show B0 ≤ (wr.alloc (.cells (dnC k' m' z' p' B' n' c').toArray 34)).heap.size by have := HSZ0.out; simp; omega)
            clear hv hk hxe hmx hxb hX hXl hx HOWN HDB HSZ0
            go_wp2_with (first
              | (have := hgr8; exact absurd rfl (by assumption))
              | (have := hrd9; refine wpList_app2 Tryd.elemI rfl (.tmp 22) (.tmp 24) rfl (v := u3) (n := X.length) rfl (own_ext HOWNK.out hx1) (Nat.le_trans HSZK.out hx1.size) (A := A9) (m := x.groups) (c := c9) rfl hrd9 (one_intsV _) (by have := HXL.out; have := HKX.out.2.2; omega) (by have := HXL.out; have := HKX.out.2.2; unfold maxLen; omega) ?_; intro v8 w8 hown8 hgr8 _ _)
              | (refine load_el rfl (.tmp 20) rfl (b := b) (q := o + i * 260) rfl hrg.out ?_)
              | (refine store_dn_new rfl (.tmp 5) (.tmp 21) rfl rfl rfl zsize40 ?_)
              | (refine load_dn rfl (.tmp 5) rfl (g := wr.heap.size) rfl (DB.new wr _ _ _ _ _ _ _) ?_)
              | (go_at_call 38; refine (ih x HKX.out.1 HKX.out.2.1 S _ (dnC k' m' z' p' B' n' c') HV.out).mono ?_; rintro e w1 ⟨v9, rfl, ho9, hx1⟩; obtain ⟨A9, c9, rfl, _, _, hrd9⟩ := own_rd ho9))
            have hob : ∀ b, u3.ownBlock = some b → B0 ≤ b := fun b hb => (HOWNK.out.lt b hb).1
            have hHBE := HBE.out
            have HX8 := Lib.hid (show Ext w w8 from (grew_chg hgr8).below (Ext.trans HXK.out hx1) (Ext.trans HXK.out hx1).size (fun y hy => by have := hob y (by simpa using hy); have := HGE.out; have := HG0.out; omega))
            have HD8 := Lib.hid (show DB w8 g0 8 m z p (some ⟨b, o, none⟩) ks.length c from Blk.grew (HDBK.out.keep hx1) hgr8 (fun e => by have := hob g0 e.symm; omega))
            have HS8 := Lib.hid (show B0 ≤ w8.heap.size from Nat.le_trans (Nat.le_trans HSZK.out hx1.size) hgr8.size)
            have HO8 := Lib.hid (show w8.ownsRow B0 3 1 v8 (pre ++ numsL (ks.take (i + 1))).length (intsV (pre ++ numsL (ks.take (i + 1)))) from by
              rw [HTT.out, List.length_append, nums_len, intsV, List.map_append]
              exact hown8)
            clear hown8 hgr8 hob hHBE HXK HOWNK HDBK HSZK ho9 hrd9 hx1
            go_roundg (ks.length - (i + 1))
            case measure => omega
            case rel => exact ⟨i + 1, by omega, rfl, HO8.out, by go_num, HX8.out, HD8.out, HS8.out⟩
          · obtain rfl : i = ks.length := by omega
            have hlt' : ¬ (ks.length : Int) < (ks.length : Int) := by omega
            have hown := HOWN.out
            rw [List.take_length] at hown
            have HF := Lib.hid (own_mono hown HGE.out)
            have HXF := Lib.hid hx
            rw [← HG0.out] at HF
            clear hown hx
            go_wp2
            go_ret
            have hF := HF.out
            rw [List.length_append] at hF
            exact ⟨_, rfl, hF, HXF.out⟩
      focus
        have y0 := HB0.out.kind
        have y1 := HB0.out.num
        have e8 : (k == 8) = false := by simp [hk8]
        clear hk8
        go_upto_region 4 with fail
        clear y0 y1 e8
        have HOW := Lib.hid (show wb.ownsRow B0 3 1 (.slice (some ⟨B0, 0, none⟩) 0 0) pre.length (intsV pre) from by rw [hp]; exact HO0.out)
        have HXW := Lib.hid HX1.out
        have HDB := Lib.hid HB0.out
        have HSZ := Lib.hid HSB0.out
        clear hp
        clear HO0 HX1 HB0 HSB0
        have y7 := HDB.out.kids
        go_wp2
        clear y7
        go_loopg [3, 18] (ks.length) (fun gg ov iv wr => ∃ i : Nat, i ≤ ks.length ∧ gg = ks.length - i ∧ wr.ownsRow B0 3 1 ov (pre ++ numsL (ks.take i)).length (intsV (pre ++ numsL (ks.take i))) ∧ iv = .int .i64 (i : Nat) ∧ Ext w wr ∧ DB wr g0 k m z p A ks.length c ∧ B0 ≤ wr.heap.size)
        case atStart => exact ⟨0, by omega, rfl, by rw [List.take_zero, numsL, List.append_nil]; exact HOW.out, rfl, HXW.out, HDB.out, HSZ.out⟩
        case round =>
          obtain ⟨i, hi, rfl, hown, rfl, hx, hdb, hsz0⟩ := hrel
          clear HOW HXW HDB HSZ
          have HOWN := Lib.hid hown
          have HDB := Lib.hid hdb
          have HSZ0 := Lib.hid hsz0
          clear hown hdb hsz0
          by_cases hlt : i < ks.length
          · obtain ⟨b, o, k', m', z', p', B', n', c', rfl, hv, hk⟩ := dkid_at HR.out HK.out hlt
            have hrg := Lib.hid (hk.out wr hx)
            have hw2 : IntKind.i64.wrap ((i : Int) + 1) = (i : Int) + 1 := wrap_id (by have := HLN.out; omega) (by have := HLN.out; omega)
            have hlt' : (i : Int) < (ks.length : Int) := by omega
            have hxb := Ext.new1 wr (.cells (dnC k' m' z' p' B' n' c').toArray 34)
            obtain ⟨x, hxe⟩ : ∃ x, ks[i]'hlt = x := ⟨_, rfl⟩
            have hmx : x ∈ ks := hxe ▸ List.getElem_mem hlt
            have HV := Lib.hid (show DNodeV S _ x _ from hxe ▸ (hv.keep hx).keep hxb)
            have HKX := Lib.hid (HKS.out x hmx)
            have HTT := Lib.hid (show pre ++ numsL (ks.take (i + 1)) = (pre ++ numsL (ks.take i)) ++ numsT x by rw [List.take_succ_eq_append_getElem hlt, hxe, numsL_append, numsL, numsL, List.append_nil, List.append_assoc])
            obtain ⟨X, hX⟩ : ∃ X, pre ++ numsL (ks.take i) = X := ⟨_, rfl⟩
            have hXl : X.length ≤ 1000001 := by
              have h1 := HPL.out
              have h2 := HGL.out
              have h3 := groupsL_take_le ks i
              rw [← hX, List.length_append, numsL_len]
              omega
            have HXL := Lib.hid hXl
            rw [hX] at HOWN HTT
            have HXK := Lib.hid (Ext.trans hx hxb)
            have HDBK := Lib.hid (HDB.out.keep hxb)
            have HOWNK := Lib.hid (own_ext HOWN.out hxb)
            have HSZK := Lib.hid (show B0 ≤ (wr.alloc (.cells (dnC k' m' z' p' B' n' c').toArray 34)).heap.size by have := HSZ0.out; simp; omega)
            clear hv hk hxe hmx hxb hX hXl hx HOWN HDB HSZ0
            go_wp2_with (first
              | (have := hgr8; exact absurd rfl (by assumption))
              | (have := hrd9; refine wpList_app2 Tryd.elemI rfl (.tmp 22) (.tmp 24) rfl (v := u3) (n := X.length) rfl (own_ext HOWNK.out hx1) (Nat.le_trans HSZK.out hx1.size) (A := A9) (m := x.groups) (c := c9) rfl hrd9 (one_intsV _) (by have := HXL.out; have := HKX.out.2.2; omega) (by have := HXL.out; have := HKX.out.2.2; unfold maxLen; omega) ?_; intro v8 w8 hown8 hgr8 _ _)
              | (refine load_el rfl (.tmp 20) rfl (b := b) (q := o + i * 260) rfl hrg.out ?_)
              | (refine store_dn_new rfl (.tmp 5) (.tmp 21) rfl rfl rfl zsize40 ?_)
              | (refine load_dn rfl (.tmp 5) rfl (g := wr.heap.size) rfl (DB.new wr _ _ _ _ _ _ _) ?_)
              | (go_at_call 38; refine (ih x HKX.out.1 HKX.out.2.1 S _ (dnC k' m' z' p' B' n' c') HV.out).mono ?_; rintro e w1 ⟨v9, rfl, ho9, hx1⟩; obtain ⟨A9, c9, rfl, _, _, hrd9⟩ := own_rd ho9))
            have hob : ∀ b, u3.ownBlock = some b → B0 ≤ b := fun b hb => (HOWNK.out.lt b hb).1
            have hHBE := HBE.out
            have HX8 := Lib.hid (show Ext w w8 from (grew_chg hgr8).below (Ext.trans HXK.out hx1) (Ext.trans HXK.out hx1).size (fun y hy => by have := hob y (by simpa using hy); have := HGE.out; have := HG0.out; omega))
            have HD8 := Lib.hid (show DB w8 g0 k m z p (some ⟨b, o, none⟩) ks.length c from Blk.grew (HDBK.out.keep hx1) hgr8 (fun e => by have := hob g0 e.symm; omega))
            have HS8 := Lib.hid (show B0 ≤ w8.heap.size from Nat.le_trans (Nat.le_trans HSZK.out hx1.size) hgr8.size)
            have HO8 := Lib.hid (show w8.ownsRow B0 3 1 v8 (pre ++ numsL (ks.take (i + 1))).length (intsV (pre ++ numsL (ks.take (i + 1)))) from by
              rw [HTT.out, List.length_append, nums_len, intsV, List.map_append]
              exact hown8)
            clear hown8 hgr8 hob hHBE HXK HOWNK HDBK HSZK ho9 hrd9 hx1
            go_roundg (ks.length - (i + 1))
            case measure => omega
            case rel => exact ⟨i + 1, by omega, rfl, HO8.out, by go_num, HX8.out, HD8.out, HS8.out⟩
          · obtain rfl : i = ks.length := by omega
            have hlt' : ¬ (ks.length : Int) < (ks.length : Int) := by omega
            have hown := HOWN.out
            rw [List.take_length] at hown
            have HF := Lib.hid (own_mono hown HGE.out)
            have HXF := Lib.hid hx
            rw [← HG0.out] at HF
            clear hown hx
            go_wp2
            go_ret
            have hF := HF.out
            rw [List.length_append] at hF
            exact ⟨_, rfl, hF, HXF.out⟩
end Go.Proofs.YtnkhiohopcadmaaDoor
