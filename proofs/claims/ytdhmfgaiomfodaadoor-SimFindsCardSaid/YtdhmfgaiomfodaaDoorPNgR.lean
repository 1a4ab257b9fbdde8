/- Is there more in a tree than is asked? Walked. -/
import Derived.Test.YtdhmfgaiomfodaaDoorPTgL
namespace Go.Proofs.YtdhmfgaiomfodaaDoor
open Go Go.RowKit
attribute [local irreducible] wd

mutual
def greatF : T → Int → Nat → Int
  | .node _ _ _ _ ks, left, deep => if deep = 0 ∨ left ≤ 0 then -1 else greatL ks (left - 1) (deep - 1)
def greatL : List T → Int → Nat → Int
  | [], left, _ => left
  | t :: ts, left, d => greatL ts (if 0 ≤ left then greatF t left d else left) d
end
mutual
theorem greatF_le : ∀ (t : T) (left : Int) (d : Nat), -1 ≤ left → -1 ≤ greatF t left d ∧ (greatF t left d ≤ left) ∧ (0 ≤ greatF t left d → greatF t left d + t.size ≤ left)
  | .node k m z p ks, left, d, h => by
    rw [greatF, size_node]
    split
    · omega
    · have := greatL_le ks (left - 1) (d - 1) (by omega)
      omega
theorem greatL_le : ∀ (ks : List T) (left : Int) (d : Nat), -1 ≤ left → -1 ≤ greatL ks left d ∧ (greatL ks left d ≤ left) ∧ (0 ≤ greatL ks left d → greatL ks left d + sizeL ks ≤ left)
  | [], left, d, h => by rw [greatL, sizeL]; omega
  | t :: ts, left, d, h => by
    have h1 := greatF_le t left d h
    rw [greatL, sizeL]
    split
    · have h2 := greatL_le ts (greatF t left d) d (by omega)
      omega
    · have h2 := greatL_le ts left d h
      omega
end
theorem greatL_append (a b : List T) (left : Int) (d : Nat) : greatL (a ++ b) left d = greatL b (greatL a left d) d := by
  induction a generalizing left with
  | nil => rw [List.nil_append, greatL]
  | cons x r ih => rw [List.cons_append, greatL, greatL, ih]
theorem greatL_take {ks : List T} {i : Nat} (hi : i < ks.length) (left : Int) (d : Nat) : greatL (ks.take (i + 1)) left d = if 0 ≤ greatL (ks.take i) left d then greatF (ks[i]'hi) (greatL (ks.take i) left d) d else greatL (ks.take i) left d := by
  rw [List.take_succ_eq_append_getElem hi, greatL_append, greatL, greatL]
def T.great (t : T) : Bool := decide (greatF t 60 45 < 0)
theorem great_size {t : T} (h : t.great = false) : t.size ≤ 60 := by
  unfold T.great at h
  have := greatF_le t 60 45 (by omega)
  simp at h
  omega

set_option maxHeartbeats 4000000 in
set_option maxRecDepth 20000 in
theorem lawGreatF : ∀ n, ∀ t : T, t.size ≤ n → ∀ S w v left deep, NodeV S w t v → -1 ≤ left → left ≤ 60 → deep ≤ 45 →
    Calls Tryd.prog 40 #[.agg v.toArray, .int .i64 left, .int .i64 (deep : Nat)] w fun e w' => e = .returned (.int .i64 (greatF t left deep)) ∧ Ext w w' := by
  intro n
  induction n with
  | zero => intro t ht; have := size_pos t; omega
  | succ n ih =>
    intro t ht S w v left deep h hl1 hl2 hdp
    cases t with
    | node k m z p ks =>
      unfold NodeV at h
      obtain ⟨A, c, cs, rfl, h1, h2, h3, h4, h5⟩ := h
      rw [size_node] at ht
      have HR := Lib.hid h3
      have HK := Lib.hid h5
      have hlk := sizeL_len ks
      have hx0 := Lib.hid (Ext.new1 w (.cells (nodeC k m z p A ks.length c).toArray 27))
      unfold maxLen at h2
      have hkl : ks.length ≤ 9223372036854775807 := by omega
      clear h3 h4 h5 h2
      unfold nodeC at hx0 ⊢
      by_cases hd0 : deep = 0
      · subst hd0
        rw [greatF, if_pos (.inl rfl)]
        go_enter Tryd.func40, Tryd.ntmps40
        go_wp2
        go_ret
        exact ⟨rfl, hx0.out⟩
      have hdb : ((deep : Int) == 0) = false := by simp; omega
      by_cases hl0 : left ≤ 0
      · rw [greatF, if_pos (.inr hl0)]
        clear hd0
        go_enter Tryd.func40, Tryd.ntmps40
        go_wp2
        go_ret
        exact ⟨rfl, hx0.out⟩
      rw [greatF, if_neg (by omega)]
      have hw3 : IntKind.i64.wrap ((deep : Int) - 1) = ((deep - 1 : Nat) : Int) := by rw [wrap_id (by omega) (by omega)]; omega
      obtain ⟨dp, hdp2⟩ : ∃ dp, deep - 1 = dp := ⟨_, rfl⟩
      obtain ⟨l1, hl⟩ : ∃ l1, left - 1 = l1 := ⟨_, rfl⟩
      rw [hdp2] at hw3
      have hw1 : IntKind.i64.wrap (left - 1) = l1 := by rw [wrap_id (by omega) (by omega)]; exact hl
      have HD := Lib.hid (show dp ≤ 45 by omega)
      have hb1 : 0 ≤ l1 := by omega
      have hb2 : l1 ≤ 60 := by omega
      rw [hdp2, hl]
      clear hd0 hdp2 hl hl1 hl2 hdp
      go_enter Tryd.func40, Tryd.ntmps40
      go_wp2
      clear hw1 hl0
      go_loopg [1, 20] (ks.length) (fun g a b wr => ∃ i : Nat, i ≤ ks.length ∧ g = ks.length - i ∧ a = .int .i64 (greatL (ks.take i) l1 dp) ∧ b = .int .i64 (i : Nat) ∧ Ext w wr)
      case atStart => exact ⟨0, by omega, rfl, by rw [List.take_zero, greatL], rfl, hx0.out⟩
      case round =>
        obtain ⟨i, hi, rfl, rfl, rfl, hx⟩ := hrel
        by_cases hlt : i < ks.length
        · obtain ⟨b, o, k', m', z', p', B, n', c', rfl, hv, hk⟩ := kid_at HR.out HK.out hlt
          obtain ⟨c0, c1, c2, c3, c4, c5, c6, c7⟩ := hk.out wr hx
          have hmem := sizeL_mem (List.getElem_mem hlt)
          have hstep := greatL_take hlt l1 dp
          have hbd := greatL_le (ks.take i) l1 dp (by omega)
          obtain ⟨q, hq⟩ : ∃ q, greatL (ks.take i) l1 dp = q := ⟨_, rfl⟩
          rw [hq] at hstep hbd ⊢
          have hw2 : IntKind.i64.wrap ((i : Int) + 1) = (i : Int) + 1 := wrap_id (by omega) (by omega)
          have hlt' : (i : Int) < (ks.length : Int) := by omega
          have HV := Lib.hid (hv.keep hx)
          have HT := Lib.hid (show (ks[i]'hlt).size ≤ n by omega)
          have HB := Lib.hid (show -1 ≤ q ∧ q ≤ 60 by omega)
          have hxn := Lib.hid (Ext.trans hx (Ext.new1 wr (.cells (nodeC k' m' z' p' B n' c').toArray 27)))
          by_cases h0 : 0 ≤ q
          · rw [if_pos h0] at hstep
            have HS := Lib.hid hstep
            clear hv hstep hmem hq hbd ht hk
            go_wp2_with (go_at_call 40; refine (ih _ HT.out S _ (nodeC k' m' z' p' B n' c') q dp (HV.out.keep (by (first | exact Ext.refl _ | (unfold Ext; repeat (first | exact Below.refl _ _ | assumption | refine Below.alloc ?_ (by first | (simp; done) | (simp; omega) | omega) _ | refine Below.setCell ?_ (by first | (simp; done) | (simp; omega) | omega) _ | refine Below.drew ?_))))) HB.out.1 HB.out.2 HD.out).mono ?_; rintro e w1 ⟨rfl, hx1⟩)
            go_roundg (ks.length - (i + 1))
            case measure => omega
            case rel => exact ⟨i + 1, by omega, rfl, by rw [HS.out], by go_num, Ext.trans hx (Ext.trans (Ext.new1 _ _) hx1)⟩
          · rw [if_neg h0] at hstep
            have HS := Lib.hid hstep
            clear hv hstep hmem hq hbd ht hk
            go_wp2
            go_roundg (ks.length - (i + 1))
            case measure => omega
            case rel => exact ⟨i + 1, by omega, rfl, by rw [HS.out], by go_num, hxn.out⟩
        · obtain rfl : i = ks.length := by omega
          have hlt' : ¬ (ks.length : Int) < (ks.length : Int) := by omega
          rw [List.take_length]
          go_wp2
          go_ret
          exact ⟨rfl, hx⟩

set_option maxHeartbeats 1000000 in
set_option maxRecDepth 20000 in
theorem lawGreat (t : T) (S : Nat → Prop) (w : World) (v : List Value) (h : NodeV S w t v) :
    Calls Tryd.prog 11 #[.agg v.toArray] w fun e w' => e = .returned (.bool t.great) ∧ Ext w w' := by
  obtain ⟨k, m, z, p, B, n, c, rfl⟩ := nodeV_form h
  have hx0 := Lib.hid (Ext.new1 w (.cells (nodeC k m z p B n c).toArray 27))
  have HV := Lib.hid (h.keep hx0.out)
  have hg : t.great = decide (greatF t 60 45 < 0) := rfl
  rw [hg]
  clear h hg
  unfold nodeC at hx0 HV ⊢
  obtain ⟨q, hq⟩ : ∃ q, greatF t 60 45 = q := ⟨_, rfl⟩
  have HQ := Lib.hid hq
  rw [hq]
  clear hq
  go_enter Tryd.func11, Tryd.ntmps11
  go_wp2_with (go_at_call 40; refine (lawGreatF t.size t (Nat.le_refl _) S _ (nodeC k m z p B n c) 60 45 HV.out (by omega) (by omega) (by omega)).mono ?_; rintro e w1 ⟨rfl, hx1⟩; rw [HQ.out])
  go_ret
  exact ⟨rfl, Ext.trans hx0.out hx1⟩
end Go.Proofs.YtdhmfgaiomfodaaDoor
