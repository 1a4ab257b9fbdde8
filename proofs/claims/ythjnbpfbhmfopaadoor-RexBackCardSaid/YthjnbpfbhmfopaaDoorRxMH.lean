/- Put together: Rx33, Rx34, OpenNode, Rx35. -/
import Derived.Test.YthjnbpfbhmfopaaDoorRxMA
import Derived.Test.YthjnbpfbhmfopaaDoorRxMG
import Derived.Test.YthjnbpfbhmfopaaDoorOpenSet
import Derived.Deep.Strs
import Derived.Test.YthjnbpfbhmfopaaDoorRxMF
namespace Go.Proofs.YthjnbpfbhmfopaaDoor
open Go Go.RowKit
attribute [local irreducible] wd

theorem same_take {ks ls : List T} {i : Nat} (h1 : i < ks.length) (h2 : i < ls.length) : sameL (ks.take (i + 1)) (ls.take (i + 1)) = (sameL (ks.take i) (ls.take i) && (ks[i]'h1).same (ls[i]'h2)) := by
  induction ks generalizing ls i with
  | nil => simp at h1
  | cons t ts ih =>
    cases ls with
    | nil => simp at h2
    | cons u us =>
      cases i with
      | zero => simp [sameL]
      | succ i =>
        have h1' : i < ts.length := by simpa using h1
        have h2' : i < us.length := by simpa using h2
        rw [List.take_succ_cons, List.take_succ_cons, List.take_succ_cons, List.take_succ_cons, sameL, sameL, ih h1' h2', Bool.and_assoc]
        rfl
theorem same_at {ks ls : List T} (h : sameL ks ls = true) {i : Nat} (h1 : i < ks.length) (h2 : i < ls.length) : (ks[i]'h1).same (ls[i]'h2) = true := by
  induction ks generalizing ls i with
  | nil => simp at h1
  | cons t ts ih =>
    cases ls with
    | nil => simp at h2
    | cons u us =>
      rw [sameL, Bool.and_eq_true] at h
      cases i with
      | zero => exact h.1
      | succ i => exact ih h.2 (by simpa using h1) (by simpa using h2)
/-- A function of two nodes that tells of each of these whether another one is the same. -/
def FnSame (F : FuncId) (ks : List T) : Prop :=
  ∀ x ∈ ks, ∀ y S S' w v v', NodeV S w x v → NodeV S' w y v' → Calls Tryd.prog F #[.agg v.toArray, .agg v'.toArray] w fun e w' => e = .returned (.bool (x.same y)) ∧ Ext w w'

set_option maxHeartbeats 4000000 in
set_option maxRecDepth 20000 in
theorem rxEqual {S S' : Nat → Prop} {w : World} {A A' : Option Addr} {ks ls : List T} {cs ds : List Value} (c c' : Nat) (hf : FnSame 19 ks) (hR : Rd w 8 A ks.length cs) (hK : KidsV S w ks cs) (hR' : Rd w 8 A' ls.length ds) (hK' : KidsV S' w ls ds) (hl : ks.length ≤ maxLen) (_ : ls.length ≤ maxLen) :
    Calls Tryd.prog 34 #[.slice A ks.length c, .slice A' ls.length c', .func (.func 19) #[] #[]] w fun e w' => e = .returned (.bool (sameL ks ls)) ∧ Ext w w' := by
  have HR := Lib.hid hR
  have HK := Lib.hid hK
  have HR' := Lib.hid hR'
  have HK' := Lib.hid hK'
  unfold maxLen at hl
  clear hR hK hR' hK'
  by_cases hlen : ks.length = ls.length
  · go_enter Tryd.func34, Tryd.ntmps34
    have hne : ((ks.length : Int) != (ls.length : Int)) = false := by rw [hlen]; simp
    have HLEN := Lib.hid hlen
    clear hlen
    go_wp2
    clear hne
    go_loopg [17] (ks.length) (fun g a wr => ∃ i : Nat, i ≤ ks.length ∧ g = ks.length - i ∧ a = .int .i64 (i : Nat) ∧ sameL (ks.take i) (ls.take i) = true ∧ Ext w wr)
    case atStart => exact ⟨0, by omega, rfl, rfl, by simp [sameL], Ext.refl _⟩
    case round =>
      obtain ⟨i, hi, rfl, rfl, hno, hx⟩ := hrel
      have HNO := Lib.hid hno
      clear hno
      by_cases hlt : i < ks.length
      · have hlt2 : i < ls.length := by rw [← HLEN.out]; exact hlt
        obtain ⟨b, o, k1, m1, z1, p1, B1, n1, cc1, rfl, hv, hk⟩ := kid_at HR.out HK.out hlt
        obtain ⟨b2, o2, k2, m2, z2, p2, B2, n2, cc2, rfl, hv2, hk2⟩ := kid_at HR'.out HK'.out hlt2
        obtain ⟨c0, c1, c2, c3, c4, c5, c6, c7⟩ := hk.out wr hx
        have hx1 := Ext.trans hx (Ext.new1 wr (.cells (nodeC k1 m1 z1 p1 B1 n1 cc1).toArray 28))
        obtain ⟨d0, d1, d2, d3, d4, d5, d6, d7⟩ := hk2.out _ hx1
        have hx2 := Ext.trans hx1 (Ext.new1 _ (.cells (nodeC k2 m2 z2 p2 B2 n2 cc2).toArray 28))
        have HX2 := Lib.hid hx2
        have hlt' : (i : Int) < (ks.length : Int) := by omega
        have hlt2' : (i : Int) < (ls.length : Int) := by omega
        have hw2 : IntKind.i64.wrap ((i : Int) + 1) = (i : Int) + 1 := wrap_id (by omega) (by omega)
        obtain ⟨x, hxe⟩ : ∃ x, ks[i]'hlt = x := ⟨_, rfl⟩
        obtain ⟨y, hye⟩ : ∃ y, ls[i]'hlt2 = y := ⟨_, rfl⟩
        have HM := Lib.hid (show x ∈ ks from hxe ▸ List.getElem_mem hlt)
        have HVX := Lib.hid (show NodeV S _ x (nodeC k1 m1 z1 p1 B1 n1 cc1) from hxe ▸ hv.keep hx2)
        have HVY := Lib.hid (show NodeV S' _ y (nodeC k2 m2 z2 p2 B2 n2 cc2) from hye ▸ hv2.keep hx2)
        have HT := Lib.hid (show sameL (ks.take (i + 1)) (ls.take (i + 1)) = x.same y by rw [same_take hlt hlt2, HNO.out, hxe, hye]; rfl)
        have HA := Lib.hid (show sameL ks ls = true → x.same y = true by intro h; rw [← hxe, ← hye]; exact same_at h hlt hlt2)
        have hxw := Lib.hid hx
        clear hv hv2 hk hk2 hxe hye hx1 hx2 hx
        unfold nodeC at d0 d1 d2 d3 d4 d5 d6 d7 HVX HVY HX2
        cases hP : x.same y
        · have HP := Lib.hid hP
          have HF := Lib.hid (show sameL ks ls = false from by
            cases h : sameL ks ls
            · rfl
            · have := HA.out h; rw [hP] at this; cases this)
          clear hP
          go_wp2_with (go_at_call 19; refine (hf x HM.out y S S' _ (nodeC k1 m1 z1 p1 B1 n1 cc1) (nodeC k2 m2 z2 p2 B2 n2 cc2) HVX.out HVY.out).mono ?_; rintro e w1 ⟨rfl, hx1⟩; rw [HP.out])
          go_ret
          exact ⟨by rw [HF.out]; rfl, Ext.trans HX2.out hx1⟩
        · have HP := Lib.hid hP
          clear hP
          go_wp2_with (go_at_call 19; refine (hf x HM.out y S S' _ (nodeC k1 m1 z1 p1 B1 n1 cc1) (nodeC k2 m2 z2 p2 B2 n2 cc2) HVX.out HVY.out).mono ?_; rintro e w1 ⟨rfl, hx1⟩; rw [HP.out])
          go_roundg (ks.length - (i + 1))
          case measure => omega
          case rel => exact ⟨i + 1, by omega, rfl, by go_num, by rw [HT.out, HP.out], Ext.trans HX2.out hx1⟩
      · obtain rfl : i = ks.length := by omega
        have hno := HNO.out
        rw [List.take_length, HLEN.out, List.take_length] at hno
        have HN := Lib.hid hno
        clear hno
        go_wp2
        go_ret
        exact ⟨by rw [HN.out]; rfl, hx⟩
  · have hne : ((ks.length : Int) != (ls.length : Int)) = true := by simp; omega
    have HF := Lib.hid (show sameL ks ls = false from by
      cases h : sameL ks ls
      · rfl
      · exact absurd (same_len h) hlen)
    clear hlen
    go_enter Tryd.func34, Tryd.ntmps34
    go_wp2
    go_ret
    exact ⟨by rw [HF.out]; rfl, Ext.refl _⟩

set_option maxHeartbeats 8000000 in
set_option maxRecDepth 20000 in
theorem rxSame : ∀ n, ∀ t : T, t.size ≤ n → ∀ u S S' w v v', NodeV S w t v → NodeV S' w u v' →
    Calls Tryd.prog 19 #[.agg v.toArray, .agg v'.toArray] w fun e w' => e = .returned (.bool (t.same u)) ∧ Ext w w' := by
  intro n
  induction n with
  | zero => intro t ht; have := size_pos t; omega
  | succ n ih =>
    intro t ht u S S' w v v' h h'
    cases t with
    | node k m z p ks =>
    cases u with
    | node k' m' z' p' ls =>
      unfold NodeV at h h'
      obtain ⟨A, c, cs, rfl, h1, h2, h3, h4, h5⟩ := h
      obtain ⟨A', c', ds, rfl, g1, g2, g3, g4, g5⟩ := h'
      rw [size_node] at ht
      have hf : FnSame 19 ks := fun x hx y S S' w v v' hv hv' => by
        have := sizeL_mem hx
        exact ih x (by omega) y S S' w v v' hv hv'
      have hl : ks.length ≤ maxLen := Nat.le_trans h1 h2
      have hl' : ls.length ≤ maxLen := Nat.le_trans g1 g2
      have hx0 := Lib.hid (Ext.trans (Ext.new1 w (.cells (nodeC k m z p A ks.length c).toArray 28)) (Ext.new1 _ (.cells (nodeC k' m' z' p' A' ls.length c').toArray 28)))
      have HR := Lib.hid (h3.keep hx0.out)
      have HK := Lib.hid (kidsV_map (fun t v h => NodeV.keep h hx0.out) h5)
      have HR' := Lib.hid (g3.keep hx0.out)
      have HK' := Lib.hid (kidsV_map (fun t v h => NodeV.keep h hx0.out) g5)
      have HL := Lib.hid (And.intro hl hl')
      have heq := Lib.hid (fun w => eq_sp p p' w)
      unfold sp at heq
      have hsm : T.same (.node k m z p ks) (.node k' m' z' p' ls) = ((decide (k = k') && decide (m = m') && (z == z') && sameP p p') && sameL ks ls) := by rw [T.same]
      have HF := Lib.hid hf
      clear h1 h2 h3 h4 h5 g1 g2 g3 g4 g5 hf hl hl' ih ht
      unfold nodeC at hx0 HR HK HR' HK' ⊢
      by_cases ek : k = k'
      rotate_left
      · have eb : (k == k') = false := by simp [ek]
        rw [decide_eq_false ek] at hsm
        simp only [Bool.false_and] at hsm
        clear ek
        rw [hsm]
        clear hsm
        go_enter Tryd.func19, Tryd.ntmps19
        go_wp2
        go_ret
        exact ⟨by simp, hx0.out⟩
      subst ek
      by_cases em : m = m'
      rotate_left
      · have eb : (m == m') = false := by simp [em]
        rw [decide_eq_false em] at hsm
        simp only [Bool.false_and, Bool.and_false] at hsm
        clear em
        rw [hsm]
        clear hsm
        go_enter Tryd.func19, Tryd.ntmps19
        go_wp2
        go_ret
        exact ⟨by simp, hx0.out⟩
      subst em
      by_cases ez : z = z'
      rotate_left
      · have eb : (z == z') = false := by simp [ez]
        rw [eb] at hsm
        simp only [Bool.false_and, Bool.and_false] at hsm
        clear ez
        rw [hsm]
        clear hsm
        go_enter Tryd.func19, Tryd.ntmps19
        go_wp2
        go_ret
        exact ⟨by simp, hx0.out⟩
      subst ez
      cases es : sameP p p'
      · rw [es] at hsm
        simp only [Bool.false_and, Bool.and_false] at hsm
        have heq2 := heq.out
        rw [es] at heq2
        clear es
        rw [hsm]
        clear hsm
        go_enter Tryd.func19, Tryd.ntmps19
        go_wp2
        go_ret
        exact ⟨by simp, hx0.out⟩
      · rw [es] at hsm
        simp only [decide_true, beq_self_eq_true, Bool.and_true, Bool.true_and] at hsm
        have heq2 := heq.out
        rw [es] at heq2
        rw [hsm]
        clear es hsm
        go_enter Tryd.func19, Tryd.ntmps19
        go_wp2_with (go_at_call 34; refine (rxEqual c c' HF.out HR.out HK.out HR'.out HK'.out HL.out.1 HL.out.2).mono ?_; rintro e w1 ⟨rfl, hx1⟩)
        go_ret
        exact ⟨by simp, Ext.trans hx0.out hx1⟩
end Go.Proofs.YthjnbpfbhmfopaaDoor
namespace Go.Proofs.YthjnbpfbhmfopaaDoor
open Go Go.RowKit
attribute [local irreducible] wd

mutual
def greatF : T → Int → Nat → Int
  | .node _ _ _ _ ks, left, deep => if deep = 0 ∨ left ≤ 0 then -1 else greatL ks (left - 1) (deep - 1)
def greatL : List T → Int → Nat → Int
  | [], left, _ => left
  | t :: ts, left, d => greatL ts (if 0 ≤ left then greatF t left d else left) d
end
mutual
theorem greatF_le : ∀ (t : T) (left : Int) (d : Nat), -1 ≤ left → -1 ≤ greatF t left d ∧ (greatF t left d ≤ left) ∧ (0 ≤ greatF t left d → greatF t left d + t.size ≤ left)
  | .node k m z p ks, left, d, h => by
    rw [greatF, size_node]
    split
    · omega
    · have := greatL_le ks (left - 1) (d - 1) (by omega)
      omega
theorem greatL_le : ∀ (ks : List T) (left : Int) (d : Nat), -1 ≤ left → -1 ≤ greatL ks left d ∧ (greatL ks left d ≤ left) ∧ (0 ≤ greatL ks left d → greatL ks left d + sizeL ks ≤ left)
  | [], left, d, h => by rw [greatL, sizeL]; omega
  | t :: ts, left, d, h => by
    have h1 := greatF_le t left d h
    rw [greatL, sizeL]
    split
    · have h2 := greatL_le ts (greatF t left d) d (by omega)
      omega
    · have h2 := greatL_le ts left d h
      omega
end
theorem greatL_append (a b : List T) (left : Int) (d : Nat) : greatL (a ++ b) left d = greatL b (greatL a left d) d := by
  induction a generalizing left with
  | nil => rw [List.nil_append, greatL]
  | cons x r ih => rw [List.cons_append, greatL, greatL, ih]
theorem greatL_take {ks : List T} {i : Nat} (hi : i < ks.length) (left : Int) (d : Nat) : greatL (ks.take (i + 1)) left d = if 0 ≤ greatL (ks.take i) left d then greatF (ks[i]'hi) (greatL (ks.take i) left d) d else greatL (ks.take i) left d := by
  rw [List.take_succ_eq_append_getElem hi, greatL_append, greatL, greatL]
def T.great (t : T) : Bool := decide (greatF t 60 45 < 0)
theorem great_size {t : T} (h : t.great = false) : t.size ≤ 60 := by
  unfold T.great at h
  have := greatF_le t 60 45 (by omega)
  simp at h
  omega

set_option maxHeartbeats 4000000 in
set_option maxRecDepth 20000 in
theorem lawGreatF : ∀ n, ∀ t : T, t.size ≤ n → ∀ S w v left deep, NodeV S w t v → -1 ≤ left → left ≤ 60 → deep ≤ 45 →
    Calls Tryd.prog 27 #[.agg v.toArray, .int .i64 left, .int .i64 (deep : Nat)] w fun e w' => e = .returned (.int .i64 (greatF t left deep)) ∧ Ext w w' := by
  intro n
  induction n with
  | zero => intro t ht; have := size_pos t; omega
  | succ n ih =>
    intro t ht S w v left deep h hl1 hl2 hdp
    cases t with
    | node k m z p ks =>
      unfold NodeV at h
      obtain ⟨A, c, cs, rfl, h1, h2, h3, h4, h5⟩ := h
      rw [size_node] at ht
      have HR := Lib.hid h3
      have HK := Lib.hid h5
      have hlk := sizeL_len ks
      have hx0 := Lib.hid (Ext.new1 w (.cells (nodeC k m z p A ks.length c).toArray 28))
      unfold maxLen at h2
      have hkl : ks.length ≤ 9223372036854775807 := by omega
      clear h3 h4 h5 h2
      unfold nodeC at hx0 ⊢
      by_cases hd0 : deep = 0
      · subst hd0
        rw [greatF, if_pos (.inl rfl)]
        go_enter Tryd.func27, Tryd.ntmps27
        go_wp2
        go_ret
        exact ⟨rfl, hx0.out⟩
      have hdb : ((deep : Int) == 0) = false := by simp; omega
      by_cases hl0 : left ≤ 0
      · rw [greatF, if_pos (.inr hl0)]
        clear hd0
        go_enter Tryd.func27, Tryd.ntmps27
        go_wp2
        go_ret
        exact ⟨rfl, hx0.out⟩
      rw [greatF, if_neg (by omega)]
      have hw3 : IntKind.i64.wrap ((deep : Int) - 1) = ((deep - 1 : Nat) : Int) := by rw [wrap_id (by omega) (by omega)]; omega
      obtain ⟨dp, hdp2⟩ : ∃ dp, deep - 1 = dp := ⟨_, rfl⟩
      obtain ⟨l1, hl⟩ : ∃ l1, left - 1 = l1 := ⟨_, rfl⟩
      rw [hdp2] at hw3
      have hw1 : IntKind.i64.wrap (left - 1) = l1 := by rw [wrap_id (by omega) (by omega)]; exact hl
      have HD := Lib.hid (show dp ≤ 45 by omega)
      have hb1 : 0 ≤ l1 := by omega
      have hb2 : l1 ≤ 60 := by omega
      rw [hdp2, hl]
      clear hd0 hdp2 hl hl1 hl2 hdp
      go_enter Tryd.func27, Tryd.ntmps27
      go_wp2
      clear hw1 hl0
      go_loopg [1, 20] (ks.length) (fun g a b wr => ∃ i : Nat, i ≤ ks.length ∧ g = ks.length - i ∧ a = .int .i64 (greatL (ks.take i) l1 dp) ∧ b = .int .i64 (i : Nat) ∧ Ext w wr)
      case atStart => exact ⟨0, by omega, rfl, by rw [List.take_zero, greatL], rfl, hx0.out⟩
      case round =>
        obtain ⟨i, hi, rfl, rfl, rfl, hx⟩ := hrel
        by_cases hlt : i < ks.length
        · obtain ⟨b, o, k', m', z', p', B, n', c', rfl, hv, hk⟩ := kid_at HR.out HK.out hlt
          obtain ⟨c0, c1, c2, c3, c4, c5, c6, c7⟩ := hk.out wr hx
          have hmem := sizeL_mem (List.getElem_mem hlt)
          have hstep := greatL_take hlt l1 dp
          have hbd := greatL_le (ks.take i) l1 dp (by omega)
          obtain ⟨q, hq⟩ : ∃ q, greatL (ks.take i) l1 dp = q := ⟨_, rfl⟩
          rw [hq] at hstep hbd ⊢
          have hw2 : IntKind.i64.wrap ((i : Int) + 1) = (i : Int) + 1 := wrap_id (by omega) (by omega)
          have hlt' : (i : Int) < (ks.length : Int) := by omega
          have HV := Lib.hid (hv.keep hx)
          have HT := Lib.hid (show (ks[i]'hlt).size ≤ n by omega)
          have HB := Lib.hid (show -1 ≤ q ∧ q ≤ 60 by omega)
          have hxn := Lib.hid (Ext.trans hx (Ext.new1 wr (.cells (nodeC k' m' z' p' B n' c').toArray 28)))
          by_cases h0 : 0 ≤ q
          · rw [if_pos h0] at hstep
            have HS := Lib.hid hstep
            clear hv hstep hmem hq hbd ht hk
            go_wp2_with (go_at_call 27; refine (ih _ HT.out S _ (nodeC k' m' z' p' B n' c') q dp (HV.out.keep (by (first | exact Ext.refl _ | (unfold Ext; repeat (first | exact Below.refl _ _ | assumption | refine Below.alloc ?_ (by first | (simp; done) | (simp; omega) | omega) _ | refine Below.setCell ?_ (by first | (simp; done) | (simp; omega) | omega) _ | refine Below.drew ?_))))) HB.out.1 HB.out.2 HD.out).mono ?_; rintro e w1 ⟨rfl, hx1⟩)
            go_roundg (ks.length - (i + 1))
            case measure => omega
            case rel => exact ⟨i + 1, by omega, rfl, by rw [HS.out], by go_num, Ext.trans hx (Ext.trans (Ext.new1 _ _) hx1)⟩
          · rw [if_neg h0] at hstep
            have HS := Lib.hid hstep
            clear hv hstep hmem hq hbd ht hk
            go_wp2
            go_roundg (ks.length - (i + 1))
            case measure => omega
            case rel => exact ⟨i + 1, by omega, rfl, by rw [HS.out], by go_num, hxn.out⟩
        · obtain rfl : i = ks.length := by omega
          have hlt' : ¬ (ks.length : Int) < (ks.length : Int) := by omega
          rw [List.take_length]
          go_wp2
          go_ret
          exact ⟨rfl, hx⟩

set_option maxHeartbeats 1000000 in
set_option maxRecDepth 20000 in
theorem lawGreat (t : T) (S : Nat → Prop) (w : World) (v : List Value) (h : NodeV S w t v) :
    Calls Tryd.prog 12 #[.agg v.toArray] w fun e w' => e = .returned (.bool t.great) ∧ Ext w w' := by
  obtain ⟨k, m, z, p, B, n, c, rfl⟩ := nodeV_form h
  have hx0 := Lib.hid (Ext.new1 w (.cells (nodeC k m z p B n c).toArray 28))
  have HV := Lib.hid (h.keep hx0.out)
  have hg : t.great = decide (greatF t 60 45 < 0) := rfl
  rw [hg]
  clear h hg
  unfold nodeC at hx0 HV ⊢
  obtain ⟨q, hq⟩ : ∃ q, greatF t 60 45 = q := ⟨_, rfl⟩
  have HQ := Lib.hid hq
  rw [hq]
  clear hq
  go_enter Tryd.func12, Tryd.ntmps12
  go_wp2_with (go_at_call 27; refine (lawGreatF t.size t (Nat.le_refl _) S _ (nodeC k m z p B n c) 60 45 HV.out (by omega) (by omega) (by omega)).mono ?_; rintro e w1 ⟨rfl, hx1⟩; rw [HQ.out])
  go_ret
  exact ⟨rfl, Ext.trans hx0.out hx1⟩
end Go.Proofs.YthjnbpfbhmfopaaDoor
namespace Go.Proofs.YthjnbpfbhmfopaaDoor
open Go Go.RowKit Go.ChangeShapes Go.WideShapes
set_option linter.constructorNameAsVariable false
set_option maxRecDepth 20000

theorem open_setC {H : Type} {enc : TypeId × Value → H} {W : World} {b0 : Nat} {spare : Nat → Bool} {held : Bool} {fuel : Nat} {c0 c1 c2 c3 : Value} {y : DataW H × List MemPlace}
    (h : DataW.trod enc Tryd.prog W b0 spare held fuel 25 [c0, c1, c2, c3] = some y) : ∃ q : Nat → Bool, (∀ j, 256 ≤ j → q j = false) ∧ c0 = .int .u64 (wd q 0 : Nat) ∧ c1 = .int .u64 (wd q 1 : Nat) ∧ c2 = .int .u64 (wd q 2 : Nat) ∧ c3 = .int .u64 (wd q 3 : Nat) := by
  have hc : Tryd.prog.cellsOf 23 = 1 := by kernel_rfl
  have he := Tryd.underlying23
  obtain ⟨xs, m, _, _, _, hlen, hi⟩ := DataW.trod_array Tryd.underlying25 h
  match xs, hlen with
  | [y0, y1, y2, y3], _ =>
    have h0 := hi 0 (by omega)
    have h1 := hi 1 (by omega)
    have h2 := hi 2 (by omega)
    have h3 := hi 3 (by omega)
    simp only [hc] at h0 h1 h2 h3
    obtain ⟨k0, e0, _, w0⟩ := DataW.trod_int he h0
    obtain ⟨k1, e1, _, w1⟩ := DataW.trod_int he h1
    obtain ⟨k2, e2, _, w2⟩ := DataW.trod_int he h2
    obtain ⟨k3, e3, _, w3⟩ := DataW.trod_int he h3
    simp at e0 e1 e2 e3
    have r0 := bounds_u64 w0
    have r1 := bounds_u64 w1
    have r2 := bounds_u64 w2
    have r3 := bounds_u64 w3
    obtain ⟨n0, rfl⟩ := Int.eq_ofNat_of_zero_le r0.1
    obtain ⟨n1, rfl⟩ := Int.eq_ofNat_of_zero_le r1.1
    obtain ⟨n2, rfl⟩ := Int.eq_ofNat_of_zero_le r2.1
    obtain ⟨n3, rfl⟩ := Int.eq_ofNat_of_zero_le r3.1
    obtain ⟨q, hq, hs⟩ := sp_setOf n0 n1 n2 n3 (by omega) (by omega) (by omega) (by omega)
    unfold sp at hs
    simp only [Value.agg.injEq, Array.mk.injEq, List.cons.injEq, Value.int.injEq, true_and, and_true] at hs
    exact ⟨q, hq, by rw [e0, hs.1], by rw [e1, hs.2.1], by rw [e2, hs.2.2.1], by rw [e3, hs.2.2.2]⟩

theorem rd_of_kids {w : World} {a : Addr} {len : Nat} {cs : List Value} (hs : a.spot = none) (hl : cs.length = len * 8) (hc : ∀ j u, cs[j]? = some u → w.cell? ⟨a.block, a.off + j, none⟩ = some u) : Rd w 8 (some a) len cs := by
  refine ⟨hl, fun hp => ⟨a.block, a.off, ?_, ?_, hc⟩⟩
  · cases a; simp at hs; subst hs; rfl
  · obtain ⟨u, hu⟩ : ∃ u, cs[0]? = some u := ⟨_, List.getElem?_eq_getElem hp⟩
    have hb := block_lt_of_cell (hc 0 u hu)
    simpa using hb

theorem add_sub_ao {ao q c j : Nat} (e : c = q * 8) (h : c ≤ j) : ao + q * 8 + (j - c) = ao + j := by omega
theorem addr_add (b o n : Nat) : (⟨b, o, none⟩ : Addr).add n = ⟨b, o + n, none⟩ := by
  unfold Addr.add
  by_cases h : n = 0
  · subst h; simp
  · simp [h]

set_option maxHeartbeats 1000000 in
set_option maxRecDepth 20000 in
theorem open_nodeC {H : Type} {enc : TypeId × Value → H} {W : World} {b0 : Nat} {spare : Nat → Bool} {held : Bool} : ∀ (fuel : Nat) (cs : List Value) (x : DataW H × List MemPlace),
    DataW.trod enc Tryd.prog W b0 spare held fuel 28 cs = some x → ∃ t, NodeV (fun _ => True) W t cs := by
  intro fuel
  induction fuel using Nat.strongRecOn with
  | ind fuel ih =>
    intro cs x h
    obtain ⟨xs, n, hfu, rfl, hl, hlen, hf⟩ := DataW.trod_struct Tryd.underlying28 h
    have hcell : Tryd.prog.cellsOf 28 = 8 := by kernel_rfl
    have ci : Tryd.prog.cellsOf 3 = 1 := by kernel_rfl
    have cb : Tryd.prog.cellsOf 4 = 1 := by kernel_rfl
    have cset : Tryd.prog.cellsOf 25 = 4 := by kernel_rfl
    have csl : Tryd.prog.cellsOf 26 = 1 := by kernel_rfl
    rw [hcell] at hl
    obtain ⟨z0, z1, z2, z3, z4, z5, z6, z7, rfl⟩ : ∃ z0 z1 z2 z3 z4 z5 z6 z7, cs = [z0, z1, z2, z3, z4, z5, z6, z7] := by
      match cs, hl with
      | [a, b, c, d, e, f, g, h], _ => exact ⟨a, b, c, d, e, f, g, h, rfl⟩
    match xs, hlen with
    | [y0, y1, y2, y3, y4], _ =>
      have h0 : DataW.trod enc Tryd.prog W b0 spare held n 3 [z0] = some y0 := by
        have h9 : DataW.trod enc Tryd.prog W b0 spare held n 3 (List.take (Tryd.prog.cellsOf 3) (List.drop 0 [z0, z1, z2, z3, z4, z5, z6, z7])) = some y0 := hf 0 _ rfl
        rw [ci] at h9
        exact h9
      have h1 : DataW.trod enc Tryd.prog W b0 spare held n 3 [z1] = some y1 := by
        have h9 : DataW.trod enc Tryd.prog W b0 spare held n 3 (List.take (Tryd.prog.cellsOf 3) (List.drop 1 [z0, z1, z2, z3, z4, z5, z6, z7])) = some y1 := hf 1 _ rfl
        rw [ci] at h9
        exact h9
      have h2 : DataW.trod enc Tryd.prog W b0 spare held n 4 [z2] = some y2 := by
        have h9 : DataW.trod enc Tryd.prog W b0 spare held n 4 (List.take (Tryd.prog.cellsOf 4) (List.drop 2 [z0, z1, z2, z3, z4, z5, z6, z7])) = some y2 := hf 2 _ rfl
        rw [cb] at h9
        exact h9
      have h3 : DataW.trod enc Tryd.prog W b0 spare held n 25 [z3, z4, z5, z6] = some y3 := by
        have h9 : DataW.trod enc Tryd.prog W b0 spare held n 25 (List.take (Tryd.prog.cellsOf 25) (List.drop 3 [z0, z1, z2, z3, z4, z5, z6, z7])) = some y3 := hf 3 _ rfl
        rw [cset] at h9
        exact h9
      have h4 : DataW.trod enc Tryd.prog W b0 spare held n 26 [z7] = some y4 := by
        have h9 : DataW.trod enc Tryd.prog W b0 spare held n 26 (List.take (Tryd.prog.cellsOf 26) (List.drop 7 [z0, z1, z2, z3, z4, z5, z6, z7])) = some y4 := hf 4 _ rfl
        rw [csl] at h9
        exact h9
      obtain ⟨k, e0, _, _⟩ := DataW.trod_int Tryd.underlying3 h0
      obtain ⟨m, e1, _, _⟩ := DataW.trod_int Tryd.underlying3 h1
      obtain ⟨z, e2, _⟩ := DataW.trod_bool Tryd.underlying4 h2
      obtain ⟨p, hp, e3, e4, e5, e6⟩ := open_setC h3
      simp at e0 e1 e2
      subst e0 e1 e2 e3 e4 e5 e6
      rcases DataW.trod_slice Tryd.underlying26 h4 with ⟨e7, _⟩ | ⟨a, len, cap, elems, rest, n', hn', e7, _, _, hlc, hcm, hel, hall, _⟩
      · simp at e7
        subst e7
        refine ⟨.node k m z p [], ?_⟩
        unfold NodeV
        exact ⟨none, 0, [], rfl, Nat.le_refl _, by unfold maxLen; omega, Rd.nil, fun _ _ _ e => by (cases e), by unfold KidsV; rfl⟩
      · simp at e7
        subst e7
        have hspot : 0 < len → a.spot = none := by
          intro hp
          have h5 := hall 0 hp
          rw [List.getElem?_eq_getElem (by omega)] at h5
          simp only [Option.bind_eq_some_iff] at h5
          obtain ⟨ds, hds, _⟩ := h5
          rw [hcell] at hds
          obtain ⟨_, hl3, hce⟩ := World.cells?_some hds
          have g0 := hce 0 (by omega)
          rw [List.getElem?_eq_getElem (by omega)] at g0
          simpa [Addr.add] using World.cell?_spot g0
        have hk : ∀ q, q ≤ len → ∃ ks cs, ks.length = q ∧ KidsV (fun _ => True) W ks cs ∧ ∀ j u, cs[j]? = some u → W.cell? ⟨a.block, a.off + j, none⟩ = some u := by
          intro q
          induction q with
          | zero => intro _; exact ⟨[], [], rfl, by unfold KidsV; rfl, fun j u hu => by simp at hu⟩
          | succ q ih2 =>
            intro hq
            obtain ⟨ks, cs, hkl, hkv, hkc⟩ := ih2 (by omega)
            have h5 := hall q (by omega)
            rw [List.getElem?_eq_getElem (by omega)] at h5
            simp only [Option.bind_eq_some_iff] at h5
            obtain ⟨ds, hds, hdt⟩ := h5
            obtain ⟨t, ht⟩ := ih n' (by omega) ds _ hdt
            rw [hcell] at hds
            obtain ⟨_, hl3, hce⟩ := World.cells?_some hds
            have hcl := kidsV_len hkv
            refine ⟨ks ++ [t], cs ++ ds, by simp [hkl], kidsV_append hkv (kidsV_one ht), fun j u hu => ?_⟩
            by_cases hj : j < cs.length
            · rw [List.getElem?_append_left hj] at hu
              exact hkc j u hu
            · rw [List.getElem?_append_right (by omega)] at hu
              have hjl := (List.getElem?_eq_some_iff.1 hu).1
              have g := hce (j - cs.length) (by omega)
              rw [hu] at g
              have hsp := hspot (by omega)
              obtain ⟨ab, ao, asp⟩ := a
              simp at hsp
              subst hsp
              rw [addr_add, addr_add] at g
              rw [add_sub_ao (by rw [hcl, hkl]) (Nat.le_of_not_lt hj)] at g
              exact g
        obtain ⟨ks, cs, hkl, hkv, hkc⟩ := hk len (Nat.le_refl _)
        refine ⟨.node k m z p ks, ?_⟩
        unfold NodeV
        refine ⟨some a, cap, cs, by rw [hkl]; rfl, by omega, hcm, ?_, fun _ _ _ _ _ => trivial, hkv⟩
        rw [hkl]
        by_cases hz : len = 0
        · subst hz
          have := kidsV_len hkv
          rw [hkl] at this
          obtain rfl : cs = [] := List.eq_nil_of_length_eq_zero (by omega)
          exact Rd.nil
        · exact rd_of_kids (hspot (by omega)) (by rw [kidsV_len hkv, hkl]) hkc
theorem open_node {H : Type} {enc : TypeId × Value → H} {W : World} {r : Reach} {b0 base : Nat} {spare : Nat → Bool} {held : Bool} {v : Value} {d : DataW H} {p : List MemPlace}
    (hv : Value.okWide Tryd.prog W r b0 28 v) (h : DataW.Trod enc Tryd.prog W base spare held 28 v d p) : ∃ t cs, v = .agg cs.toArray ∧ NodeV (fun _ => True) W t cs := by
  have hv' : ∃ cs, v = .agg cs := by
    simp only [Value.okWide, Tryd.underlying28] at hv
    obtain ⟨cs, h1, _⟩ := hv
    exact ⟨cs, h1⟩
  obtain ⟨⟨cs⟩, rfl⟩ := hv'
  obtain ⟨fuel, hf⟩ := h
  obtain ⟨t, ht⟩ := open_nodeC fuel _ _ hf
  exact ⟨t, cs, rfl, by simpa [Value.cells] using ht⟩
end Go.Proofs.YthjnbpfbhmfopaaDoor
namespace Go.Proofs.YthjnbpfbhmfopaaDoor
open Go Go.RowKit
attribute [local irreducible] wd

theorem numLit (E : Nat → Addr) (k : Nat) (x : Int) (hk : k < 16) (hx : (k : Int) + 1 = x) (w : World) (h : Errs w E) :
    Calls Tryd.prog 23 #[errV E k] w fun e w' => e = .returned (.int .i64 x) ∧ Ext w w' := by
  subst hx
  exact numErr E k w h hk

set_option maxHeartbeats 16000000 in
set_option maxRecDepth 20000 in
theorem lawBack (E : Nat → Addr) (t : T) (S : Nat → Prop) (v : List Value) (s : List UInt8) (w : World) (h : NodeV S w t v) (hE : Errs w E) (hT : Tab w) :
    Calls Tryd.prog 6 #[.agg v.toArray, .string ⟨s.toArray⟩] w fun e w' => e = .returned (.bool true) ∧ Ext w w' := by
  obtain ⟨k, m, z, p, B, n, c, rfl⟩ := nodeV_form h
  have hx0 := Lib.hid (Ext.new1 w (.cells (nodeC k m z p B n c).toArray 28))
  have HV0 := Lib.hid (h.keep hx0.out)
  have HB0 := Lib.hid (NodeB.new w k m z p B n c)
  have HEr := Lib.hid (hE.keep hx0.out)
  have HEn := Lib.hid (show Env E _ from ⟨HEr.out.some _, hT.keep hx0.out⟩)
  have HEw := Lib.hid hE
  have HTw := Lib.hid hT
  clear h hE hT
  unfold nodeC at hx0 HV0 HEr HEn ⊢
  by_cases hs : 200 < s.length
  · have hs' : (200 : Int) < (s.length : Int) := by omega
    clear hs
    cases hg : t.great
    all_goals
      have HG := Lib.hid hg
      clear hg
      go_enter Tryd.func6, Tryd.ntmps6
      go_wp2_with (first
        | (have := hx1; go_at_call 12; refine (lawGreat t S _ (nodeC k m z p B n c) (HV0.out.keep hx1)).mono ?_; rintro e w2 ⟨rfl, hx2⟩; rw [HG.out])
        | (go_at_call 7; refine (alive23 E _ HEn.out).mono ?_; rintro e w1 ⟨rfl, hx1⟩; obtain ⟨q0, q1, q2, q3, q4, q5, q6, q7⟩ := (HB0.out.keep hx1).cells))
      go_ret
      exact ⟨rfl, Ext.trans hx0.out (Ext.trans hx1 hx2)⟩
  have hs' : ¬ (200 : Int) < (s.length : Int) := by omega
  clear hs
  cases hg : t.great
  rotate_left
  · have HG := Lib.hid hg
    clear hg
    go_enter Tryd.func6, Tryd.ntmps6
    go_wp2_with (first
      | (have := hx1; go_at_call 12; refine (lawGreat t S _ (nodeC k m z p B n c) (HV0.out.keep hx1)).mono ?_; rintro e w2 ⟨rfl, hx2⟩; rw [HG.out])
      | (go_at_call 7; refine (alive23 E _ HEn.out).mono ?_; rintro e w1 ⟨rfl, hx1⟩; obtain ⟨q0, q1, q2, q3, q4, q5, q6, q7⟩ := (HB0.out.keep hx1).cells))
    go_ret
    exact ⟨rfl, Ext.trans hx0.out (Ext.trans hx1 hx2)⟩
  have HSZ := Lib.hid (great_size hg)
  have HG := Lib.hid hg
  clear hg
  go_enter Tryd.func6, Tryd.ntmps6
  go_upto_region 5 with (first
    | (have := hx1; go_at_call 12; refine (lawGreat t S _ (nodeC k m z p B n c) (HV0.out.keep hx1)).mono ?_; rintro e w2 ⟨rfl, hx2⟩; rw [HG.out])
    | (go_at_call 7; refine (alive23 E _ HEn.out).mono ?_; rintro e w1 ⟨rfl, hx1⟩; obtain ⟨q0, q1, q2, q3, q4, q5, q6, q7⟩ := (HB0.out.keep hx1).cells))
  generalize w.alloc (.cells #[.int .i64 k, .int .i64 m, .bool z, .int .u64 (wd p 0 : Nat), .int .u64 (wd p 1 : Nat), .int .u64 (wd p 2 : Nat), .int .u64 (wd p 3 : Nat), .slice B n c] 28) = wb at *
  generalize w.heap.size = g0 at *
  have HX2 := Lib.hid (Ext.trans hx1 hx2)
  clear hx1 hx2
  -- ON
  have HV2 := Lib.hid (HV0.out.keep HX2.out)
  have HB2 := Lib.hid (HB0.out.keep HX2.out)
  have HE2 := Lib.hid (HEr.out.keep HX2.out)
  have HT2 := Lib.hid (HEn.out.t.keep HX2.out)
  have HXX := Lib.hid (Ext.trans hx0.out HX2.out)
  clear HV0 HB0 HEr HEn HX2 hx0 HEw HTw q0 q1 q2 q3 q4 q5 q6 q7 hs'
  go_wp2_with fail
  go_at_call 8
  refine (rxParse E s _ ⟨HE2.out.some _, HT2.out⟩).mono ?_
  rintro e w3 hP3
  cases hr1 : parseR s with
  | out => rw [hr1] at hP3; exact hP3.2.elim
  | err k1 =>
    rw [hr1] at hP3
    obtain ⟨hx3, k1, rfl, rfl⟩ := hP3
    have hn := fun w => run_eql_iface_nil (P := Tryd.prog) (w := w) 30 (by kernel_rfl) 142 (.pointer (some (E k1)))
    have hxq := Ext.trans hx3 (Ext.new1 w3 (.cells zN.toArray 28))
    have HVq := Lib.hid (HV2.out.keep hxq)
    have HBq := Lib.hid (HB2.out.keep hxq)
    have HEq := Lib.hid (HE2.out.keep hxq)
    have HTq := Lib.hid (HT2.out.keep hxq)
    have HXq := Lib.hid (Ext.trans HXX.out hxq)
    clear hx3 hxq hr1 HV2 HB2 HE2 HT2 HXX
    unfold zN at HVq HBq HEq HTq HXq
    unfold ev errV zN
    go_upto_region 10 with fail
    clear hn
    generalize w3.alloc (.cells #[.int .i64 0, .int .i64 0, .bool false, .int .u64 0, .int .u64 0, .int .u64 0, .int .u64 0, .slice none 0 0] 28) = wq at *
    obtain ⟨q0, q1, q2, q3, q4, q5, q6, q7⟩ := HBq.out.cells
    cases hr : (t.right 1 0).1
    focus
      have HR := Lib.hid hr
      have HTX := Lib.hid (show textR t = [] from by unfold textR; rw [hr]; rfl)
      clear hr
      go_wp2_with (first
        | (have := hxa; go_at_call 18; refine (rxText t (by have := HSZ.out; omega) _ _ (nodeC k m z p B n c) (HVq.out.keep hxa) (HTq.out.keep hxa)).mono ?_; rintro e wz ⟨rfl, hxz⟩; rw [HTX.out])
        | (go_at_call 17; refine (rxRight t (by have := HSZ.out; omega) _ _ (nodeC k m z p B n c) HVq.out).mono ?_; rintro e wa ⟨rfl, hxa⟩; rw [HR.out]; obtain ⟨q0, q1, q2, q3, q4, q5, q6, q7⟩ := (HBq.out.keep hxa).cells))
      go_ret
      exact ⟨by simp, Ext.trans HXq.out (Ext.trans hxa hxz)⟩
    focus
      have HR := Lib.hid hr
      have HTX := Lib.hid (show textR t = t.text from by unfold textR; rw [hr]; rfl)
      have hbl := back_law t hr
      obtain ⟨tx, htx⟩ : ∃ tx, t.text = tx := ⟨_, rfl⟩
      rw [htx] at HTX hbl
      clear hr htx
      go_wp2_with (first
        | (have := hxa; go_at_call 18; refine (rxText t (by have := HSZ.out; omega) _ _ (nodeC k m z p B n c) (HVq.out.keep hxa) (HTq.out.keep hxa)).mono ?_; rintro e wz ⟨rfl, hxz⟩; rw [HTX.out])
        | (go_at_call 17; refine (rxRight t (by have := HSZ.out; omega) _ _ (nodeC k m z p B n c) HVq.out).mono ?_; rintro e wa ⟨rfl, hxa⟩; rw [HR.out]; obtain ⟨q0, q1, q2, q3, q4, q5, q6, q7⟩ := (HBq.out.keep hxa).cells))
      have hxz2 := Ext.trans hxa hxz
      have HVz := Lib.hid (HVq.out.keep hxz2)
      have HBz := Lib.hid (HBq.out.keep hxz2)
      have HEz := Lib.hid (HEq.out.keep hxz2)
      have HTz := Lib.hid (HTq.out.keep hxz2)
      have HXz := Lib.hid (Ext.trans HXq.out hxz2)
      clear hxa hxz hxz2 q0 q1 q2 q3 q4 q5 q6 q7 HVq HBq HEq HTq HXq
      go_at_call 8
      refine (rxParse E tx _ ⟨HEz.out.some _, HTz.out⟩).mono ?_
      rintro e wp hPp
      rcases hbl with ⟨t', i, gr, hp, hsame⟩ | ⟨hp, hlen⟩ | ⟨hp, hg9⟩ | hp
      focus
        rw [hp] at hPp
        obtain ⟨hxp, v, rfl, hv⟩ := hPp
        obtain ⟨k9, m9, z9, p9, B9, n9, c9, rfl⟩ := nodeV_form hv
        have hx9 := Ext.new1 wp (.cells (nodeC k9 m9 z9 p9 B9 n9 c9).toArray 28)
        have HV9 := Lib.hid (hv.keep hx9)
        have hxp2 := Ext.trans hxp hx9
        have HX9 := Lib.hid (Ext.trans HXz.out hxp2)
        have HVn := Lib.hid (HVz.out.keep hxp2)
        have hbn := HBz.out.keep hxp2
        have HSM := Lib.hid hsame
        clear hp hsame hv hx9 hxp hxp2
        unfold nodeC at HV9 HX9 HVn hbn ⊢
        obtain ⟨q0, q1, q2, q3, q4, q5, q6, q7⟩ := hbn.cells
        clear hbn
        go_wp2_with (go_at_call 19; refine (rxSame _ t' (Nat.le_refl _) t _ _ _ (nodeC k9 m9 z9 p9 B9 n9 c9) (nodeC k m z p B n c) HV9.out HVn.out).mono ?_; rintro e wf ⟨rfl, hxf⟩; rw [HSM.out])
        go_ret
        exact ⟨rfl, Ext.trans HX9.out hxf⟩
      focus
        rw [hp] at hPp
        obtain ⟨hxp, k9, hk9, rfl⟩ := hPp
        obtain rfl : k9 = 3 := by omega
        have hn := fun w => run_eql_iface_nil (P := Tryd.prog) (w := w) 30 (by kernel_rfl) 142 (.pointer (some (E 3)))
        have hx9 := Ext.new1 wp (.cells zN.toArray 28)
        have hxp2 := Ext.trans hxp hx9
        have HX9 := Lib.hid (Ext.trans HXz.out hxp2)
        have HE9 := Lib.hid (HEz.out.keep hxp2)
        have HV9 := Lib.hid (HVz.out.keep hxp2)
        have HT9 := Lib.hid (HTz.out.keep hxp2)
        have HB9 := Lib.hid (HBz.out.keep hxp2)
        have hlen' : (120 : Int) < (tx.length : Int) := by omega
        clear hp hk9 hx9 hxp hxp2 hlen
        unfold zN at HX9 HE9 HV9 HT9 HB9
        unfold ev errV zN
        go_wp2_with (first
          | (have := hxn; go_at_call 18; refine (rxText t (by have := HSZ.out; omega) _ _ (nodeC k m z p B n c) (HV9.out.keep hxn) (HT9.out.keep hxn)).mono ?_; rintro e wf ⟨rfl, hxf⟩; rw [HTX.out])
          | (go_at_call 23; refine (numLit E 3 4 (by omega) (by omega) _ HE9.out).mono ?_; rintro e wn ⟨rfl, hxn⟩; obtain ⟨q0, q1, q2, q3, q4, q5, q6, q7⟩ := (HB9.out.keep hxn).cells))
        go_ret
        exact ⟨by simp, Ext.trans HX9.out (Ext.trans hxn hxf)⟩
      focus
        rw [hp] at hPp
        obtain ⟨hxp, k9, hk9, rfl⟩ := hPp
        obtain rfl : k9 = 1 := by omega
        have hn := fun w => run_eql_iface_nil (P := Tryd.prog) (w := w) 30 (by kernel_rfl) 142 (.pointer (some (E 1)))
        have hx9 := Ext.new1 wp (.cells zN.toArray 28)
        have hxp2 := Ext.trans hxp hx9
        have HX9 := Lib.hid (Ext.trans HXz.out hxp2)
        have HE9 := Lib.hid (HEz.out.keep hxp2)
        have HV9 := Lib.hid (HVz.out.keep hxp2)
        have HT9 := Lib.hid (HTz.out.keep hxp2)
        have HB9 := Lib.hid (HBz.out.keep hxp2)
        have hg9' : (9 : Int) < (t.groups : Int) := by omega
        clear hp hk9 hx9 hxp hxp2 hg9
        unfold zN at HX9 HE9 HV9 HT9 HB9
        unfold ev errV zN
        go_wp2_with (first
          | (have := hxn; go_at_call 9; refine (rxGroups _ t (Nat.le_refl _) (by have := HSZ.out; omega) _ _ (nodeC k m z p B n c) (HV9.out.keep hxn)).mono ?_; rintro e wf ⟨rfl, hxf⟩)
          | (go_at_call 23; refine (numLit E 1 2 (by omega) (by omega) _ HE9.out).mono ?_; rintro e wn ⟨rfl, hxn⟩; obtain ⟨q0, q1, q2, q3, q4, q5, q6, q7⟩ := (HB9.out.keep hxn).cells))
        go_ret
        exact ⟨by simp, Ext.trans HX9.out (Ext.trans hxn hxf)⟩
      focus
        rw [hp] at hPp
        obtain ⟨hxp, k9, hk9, rfl⟩ := hPp
        obtain rfl : k9 = 10 := by omega
        have hn := fun w => run_eql_iface_nil (P := Tryd.prog) (w := w) 30 (by kernel_rfl) 142 (.pointer (some (E 10)))
        have hx9 := Ext.new1 wp (.cells zN.toArray 28)
        have hxp2 := Ext.trans hxp hx9
        have HX9 := Lib.hid (Ext.trans HXz.out hxp2)
        have HE9 := Lib.hid (HEz.out.keep hxp2)
        have HV9 := Lib.hid (HVz.out.keep hxp2)
        have HT9 := Lib.hid (HTz.out.keep hxp2)
        have HB9 := Lib.hid (HBz.out.keep hxp2)
        clear hp hk9 hx9 hxp hxp2
        unfold zN at HX9 HE9 HV9 HT9 HB9
        unfold ev errV zN
        go_wp2_with (go_at_call 23; refine (numLit E 10 11 (by omega) (by omega) _ HE9.out).mono ?_; rintro e wn ⟨rfl, hxn⟩; obtain ⟨q0, q1, q2, q3, q4, q5, q6, q7⟩ := (HB9.out.keep hxn).cells)
        go_ret
        exact ⟨by simp, Ext.trans HX9.out hxn⟩
  | ok mt i1 gr1 =>
    rw [hr1] at hP3
    obtain ⟨hx3, v, rfl, hv⟩ := hP3
    obtain ⟨km, mm, zm, pm, Bm, nm, cm, rfl⟩ := nodeV_form hv
    obtain ⟨hrm, hgm⟩ := parsed_right hr1
    have HSM := Lib.hid (parseR_size hr1)
    have hbm := back_law mt hrm
    have HRM := Lib.hid hrm
    have HTM := Lib.hid (show textR mt = mt.text from by unfold textR; rw [hrm]; rfl)
    obtain ⟨tm, htm⟩ : ∃ tm, mt.text = tm := ⟨_, rfl⟩
    rw [htm] at HTM hbm
    have hxm := Ext.new1 w3 (.cells (nodeC km mm zm pm Bm nm cm).toArray 28)
    have HVm := Lib.hid (hv.keep hxm)
    have HBm := Lib.hid (NodeB.new w3 km mm zm pm Bm nm cm)
    have hxq := Ext.trans hx3 hxm
    have HV3 := Lib.hid (HV2.out.keep hxq)
    have HB3 := Lib.hid (HB2.out.keep hxq)
    have HE3 := Lib.hid (HE2.out.keep hxq)
    have HT3 := Lib.hid (HT2.out.keep hxq)
    have HX3 := Lib.hid (Ext.trans HXX.out hxq)
    clear hx3 hxq hxm hr1 hv htm hrm HV2 HB2 HE2 HT2 HXX
    unfold nodeC at HVm HBm HV3 HB3 HE3 HT3 HX3 ⊢
    go_upto_region 7 with fail
    generalize w3.alloc (.cells #[.int .i64 km, .int .i64 mm, .bool zm, .int .u64 (wd pm 0 : Nat), .int .u64 (wd pm 1 : Nat), .int .u64 (wd pm 2 : Nat), .int .u64 (wd pm 3 : Nat), .slice Bm nm cm] 28) = wm at *
    generalize w3.heap.size = gm at *
    obtain ⟨q0, q1, q2, q3, q4, q5, q6, q7⟩ := HBm.out.cells
    go_wp2_with (go_at_call 18; refine (rxText mt (by have := HSM.out; omega) _ _ (nodeC km mm zm pm Bm nm cm) HVm.out HT3.out).mono ?_; rintro e w4 ⟨rfl, hx4⟩; rw [HTM.out])
    clear q0 q1 q2 q3 q4 q5 q6 q7
    go_at_call 8
    refine (rxParse E tm _ ⟨(HE3.out.keep hx4).some _, HT3.out.keep hx4⟩).mono ?_
    rintro e w5 hP5
    rcases hbm with ⟨t', i, gr, hp, hsame⟩ | ⟨hp, hlen⟩ | ⟨hp, hg9⟩ | hp
    focus
      rw [hp] at hP5
      obtain ⟨hx5, v, rfl, hv⟩ := hP5
      obtain ⟨k9, m9, z9, p9, B9, n9, c9, rfl⟩ := nodeV_form hv
      have hx9 := Ext.new1 w5 (.cells (nodeC k9 m9 z9 p9 B9 n9 c9).toArray 28)
      have HV9 := Lib.hid (hv.keep hx9)
      have HB9 := Lib.hid (NodeB.new w5 k9 m9 z9 p9 B9 n9 c9)
      have hx6 := Ext.trans hx4 (Ext.trans hx5 hx9)
      have HX6 := Lib.hid hx6
      have HVm6 := Lib.hid (HVm.out.keep hx6)
      have HBm6 := Lib.hid (HBm.out.keep hx6)
      have HSA := Lib.hid hsame
      clear hp hsame hv hx9 hx4 hx5 hx6 hgm
      unfold nodeC at HV9 HB9 HX6 HVm6 HBm6 ⊢
      go_upto_region 8 with fail
      generalize w5.alloc (.cells #[.int .i64 k9, .int .i64 m9, .bool z9, .int .u64 (wd p9 0 : Nat), .int .u64 (wd p9 1 : Nat), .int .u64 (wd p9 2 : Nat), .int .u64 (wd p9 3 : Nat), .slice B9 n9 c9] 28) = w6 at *
      generalize w5.heap.size = gk at *
      obtain ⟨q0, q1, q2, q3, q4, q5, q6, q7⟩ := HBm6.out.cells
      go_upto_region 10 with (first
        | (have := hx7; go_at_call 19; refine (rxSame _ t' (Nat.le_refl _) mt _ _ _ (nodeC k9 m9 z9 p9 B9 n9 c9) (nodeC km mm zm pm Bm nm cm) (HV9.out.keep hx7) (HVm6.out.keep hx7)).mono ?_; rintro e wq ⟨rfl, hx8⟩; rw [HSA.out])
        | (go_at_call 17; refine (rxRight mt (by have := HSM.out; omega) _ _ (nodeC km mm zm pm Bm nm cm) HVm6.out).mono ?_; rintro e w7 ⟨rfl, hx7⟩; rw [HRM.out]; obtain ⟨q0, q1, q2, q3, q4, q5, q6, q7⟩ := (HBm6.out.keep hx7).cells; obtain ⟨r0, r1, r2, r3, r4, r5, r6, r7⟩ := (HB9.out.keep hx7).cells))
      have hxq := Ext.trans HX6.out (Ext.trans hx7 hx8)
      have HVq := Lib.hid (HV3.out.keep hxq)
      have HBq := Lib.hid (HB3.out.keep hxq)
      have HEq := Lib.hid (HE3.out.keep hxq)
      have HTq := Lib.hid (HT3.out.keep hxq)
      have HXq := Lib.hid (Ext.trans HX3.out hxq)
      clear hxq hx7 hx8 HX6 HVm6 HBm6 HV9 HB9 HSA HSM HRM HTM HVm HBm HV3 HB3 HE3 HT3 HX3 q0 q1 q2 q3 q4 q5 q6 q7 r0 r1 r2 r3 r4 r5 r6 r7
      obtain ⟨q0, q1, q2, q3, q4, q5, q6, q7⟩ := HBq.out.cells
      cases hr : (t.right 1 0).1
      focus
        have HR := Lib.hid hr
        have HTX := Lib.hid (show textR t = [] from by unfold textR; rw [hr]; rfl)
        clear hr
        go_wp2_with (first
          | (have := hxa; go_at_call 18; refine (rxText t (by have := HSZ.out; omega) _ _ (nodeC k m z p B n c) (HVq.out.keep hxa) (HTq.out.keep hxa)).mono ?_; rintro e wz ⟨rfl, hxz⟩; rw [HTX.out])
          | (go_at_call 17; refine (rxRight t (by have := HSZ.out; omega) _ _ (nodeC k m z p B n c) HVq.out).mono ?_; rintro e wa ⟨rfl, hxa⟩; rw [HR.out]; obtain ⟨q0, q1, q2, q3, q4, q5, q6, q7⟩ := (HBq.out.keep hxa).cells))
        go_ret
        exact ⟨by simp, Ext.trans HXq.out (Ext.trans hxa hxz)⟩
      focus
        have HR := Lib.hid hr
        have HTX := Lib.hid (show textR t = t.text from by unfold textR; rw [hr]; rfl)
        have hbl := back_law t hr
        obtain ⟨tx, htx⟩ : ∃ tx, t.text = tx := ⟨_, rfl⟩
        rw [htx] at HTX hbl
        clear hr htx
        go_wp2_with (first
          | (have := hxa; go_at_call 18; refine (rxText t (by have := HSZ.out; omega) _ _ (nodeC k m z p B n c) (HVq.out.keep hxa) (HTq.out.keep hxa)).mono ?_; rintro e wz ⟨rfl, hxz⟩; rw [HTX.out])
          | (go_at_call 17; refine (rxRight t (by have := HSZ.out; omega) _ _ (nodeC k m z p B n c) HVq.out).mono ?_; rintro e wa ⟨rfl, hxa⟩; rw [HR.out]; obtain ⟨q0, q1, q2, q3, q4, q5, q6, q7⟩ := (HBq.out.keep hxa).cells))
        have hxz2 := Ext.trans hxa hxz
        have HVz := Lib.hid (HVq.out.keep hxz2)
        have HBz := Lib.hid (HBq.out.keep hxz2)
        have HEz := Lib.hid (HEq.out.keep hxz2)
        have HTz := Lib.hid (HTq.out.keep hxz2)
        have HXz := Lib.hid (Ext.trans HXq.out hxz2)
        clear hxa hxz hxz2 q0 q1 q2 q3 q4 q5 q6 q7 HVq HBq HEq HTq HXq
        go_at_call 8
        refine (rxParse E tx _ ⟨HEz.out.some _, HTz.out⟩).mono ?_
        rintro e wp hPp
        rcases hbl with ⟨t', i, gr, hp, hsame⟩ | ⟨hp, hlen⟩ | ⟨hp, hg9⟩ | hp
        focus
          rw [hp] at hPp
          obtain ⟨hxp, v, rfl, hv⟩ := hPp
          obtain ⟨k9, m9, z9, p9, B9, n9, c9, rfl⟩ := nodeV_form hv
          have hx9 := Ext.new1 wp (.cells (nodeC k9 m9 z9 p9 B9 n9 c9).toArray 28)
          have HV9 := Lib.hid (hv.keep hx9)
          have hxp2 := Ext.trans hxp hx9
          have HX9 := Lib.hid (Ext.trans HXz.out hxp2)
          have HVn := Lib.hid (HVz.out.keep hxp2)
          have hbn := HBz.out.keep hxp2
          have HSM := Lib.hid hsame
          clear hp hsame hv hx9 hxp hxp2
          unfold nodeC at HV9 HX9 HVn hbn ⊢
          obtain ⟨q0, q1, q2, q3, q4, q5, q6, q7⟩ := hbn.cells
          clear hbn
          go_wp2_with (go_at_call 19; refine (rxSame _ t' (Nat.le_refl _) t _ _ _ (nodeC k9 m9 z9 p9 B9 n9 c9) (nodeC k m z p B n c) HV9.out HVn.out).mono ?_; rintro e wf ⟨rfl, hxf⟩; rw [HSM.out])
          go_ret
          exact ⟨rfl, Ext.trans HX9.out hxf⟩
        focus
          rw [hp] at hPp
          obtain ⟨hxp, k9, hk9, rfl⟩ := hPp
          obtain rfl : k9 = 3 := by omega
          have hn := fun w => run_eql_iface_nil (P := Tryd.prog) (w := w) 30 (by kernel_rfl) 142 (.pointer (some (E 3)))
          have hx9 := Ext.new1 wp (.cells zN.toArray 28)
          have hxp2 := Ext.trans hxp hx9
          have HX9 := Lib.hid (Ext.trans HXz.out hxp2)
          have HE9 := Lib.hid (HEz.out.keep hxp2)
          have HV9 := Lib.hid (HVz.out.keep hxp2)
          have HT9 := Lib.hid (HTz.out.keep hxp2)
          have HB9 := Lib.hid (HBz.out.keep hxp2)
          have hlen' : (120 : Int) < (tx.length : Int) := by omega
          clear hp hk9 hx9 hxp hxp2 hlen
          unfold zN at HX9 HE9 HV9 HT9 HB9
          unfold ev errV zN
          go_wp2_with (first
            | (have := hxn; go_at_call 18; refine (rxText t (by have := HSZ.out; omega) _ _ (nodeC k m z p B n c) (HV9.out.keep hxn) (HT9.out.keep hxn)).mono ?_; rintro e wf ⟨rfl, hxf⟩; rw [HTX.out])
            | (go_at_call 23; refine (numLit E 3 4 (by omega) (by omega) _ HE9.out).mono ?_; rintro e wn ⟨rfl, hxn⟩; obtain ⟨q0, q1, q2, q3, q4, q5, q6, q7⟩ := (HB9.out.keep hxn).cells))
          go_ret
          exact ⟨by simp, Ext.trans HX9.out (Ext.trans hxn hxf)⟩
        focus
          rw [hp] at hPp
          obtain ⟨hxp, k9, hk9, rfl⟩ := hPp
          obtain rfl : k9 = 1 := by omega
          have hn := fun w => run_eql_iface_nil (P := Tryd.prog) (w := w) 30 (by kernel_rfl) 142 (.pointer (some (E 1)))
          have hx9 := Ext.new1 wp (.cells zN.toArray 28)
          have hxp2 := Ext.trans hxp hx9
          have HX9 := Lib.hid (Ext.trans HXz.out hxp2)
          have HE9 := Lib.hid (HEz.out.keep hxp2)
          have HV9 := Lib.hid (HVz.out.keep hxp2)
          have HT9 := Lib.hid (HTz.out.keep hxp2)
          have HB9 := Lib.hid (HBz.out.keep hxp2)
          have hg9' : (9 : Int) < (t.groups : Int) := by omega
          clear hp hk9 hx9 hxp hxp2 hg9
          unfold zN at HX9 HE9 HV9 HT9 HB9
          unfold ev errV zN
          go_wp2_with (first
            | (have := hxn; go_at_call 9; refine (rxGroups _ t (Nat.le_refl _) (by have := HSZ.out; omega) _ _ (nodeC k m z p B n c) (HV9.out.keep hxn)).mono ?_; rintro e wf ⟨rfl, hxf⟩)
            | (go_at_call 23; refine (numLit E 1 2 (by omega) (by omega) _ HE9.out).mono ?_; rintro e wn ⟨rfl, hxn⟩; obtain ⟨q0, q1, q2, q3, q4, q5, q6, q7⟩ := (HB9.out.keep hxn).cells))
          go_ret
          exact ⟨by simp, Ext.trans HX9.out (Ext.trans hxn hxf)⟩
        focus
          rw [hp] at hPp
          obtain ⟨hxp, k9, hk9, rfl⟩ := hPp
          obtain rfl : k9 = 10 := by omega
          have hn := fun w => run_eql_iface_nil (P := Tryd.prog) (w := w) 30 (by kernel_rfl) 142 (.pointer (some (E 10)))
          have hx9 := Ext.new1 wp (.cells zN.toArray 28)
          have hxp2 := Ext.trans hxp hx9
          have HX9 := Lib.hid (Ext.trans HXz.out hxp2)
          have HE9 := Lib.hid (HEz.out.keep hxp2)
          have HV9 := Lib.hid (HVz.out.keep hxp2)
          have HT9 := Lib.hid (HTz.out.keep hxp2)
          have HB9 := Lib.hid (HBz.out.keep hxp2)
          clear hp hk9 hx9 hxp hxp2
          unfold zN at HX9 HE9 HV9 HT9 HB9
          unfold ev errV zN
          go_wp2_with (go_at_call 23; refine (numLit E 10 11 (by omega) (by omega) _ HE9.out).mono ?_; rintro e wn ⟨rfl, hxn⟩; obtain ⟨q0, q1, q2, q3, q4, q5, q6, q7⟩ := (HB9.out.keep hxn).cells)
          go_ret
          exact ⟨by simp, Ext.trans HX9.out hxn⟩
    focus
      rw [hp] at hP5
      obtain ⟨hx5, k9, hk9, rfl⟩ := hP5
      obtain rfl : k9 = 3 := by omega
      have hn := fun w => run_eql_iface_nil (P := Tryd.prog) (w := w) 30 (by kernel_rfl) 142 (.pointer (some (E 3)))
      have hx9 := Ext.new1 w5 (.cells zN.toArray 28)
      have hx6 := Ext.trans hx4 (Ext.trans hx5 hx9)
      have HX6 := Lib.hid hx6
      have HVm6 := Lib.hid (HVm.out.keep hx6)
      have HBm6 := Lib.hid (HBm.out.keep hx6)
      have HE6 := Lib.hid (HE3.out.keep hx6)
      clear hp hk9 hx9 hx4 hx5 hx6 hgm
      unfold zN at HX6 HVm6 HBm6 HE6
      unfold ev errV zN
      go_upto_region 8 with fail
      generalize w5.alloc (.cells #[.int .i64 0, .int .i64 0, .bool false, .int .u64 0, .int .u64 0, .int .u64 0, .int .u64 0, .slice none 0 0] 28) = w6 at *
      obtain ⟨q0, q1, q2, q3, q4, q5, q6, q7⟩ := HBm6.out.cells
      go_upto_region 10 with (first
        | (have := hx7; go_at_call 23; refine (numLit E 3 4 (by omega) (by omega) _ (HE6.out.keep hx7)).mono ?_; rintro e wq ⟨rfl, hx8⟩)
        | (go_at_call 17; refine (rxRight mt (by have := HSM.out; omega) _ _ (nodeC km mm zm pm Bm nm cm) HVm6.out).mono ?_; rintro e w7 ⟨rfl, hx7⟩; rw [HRM.out]))
      have hxq := Ext.trans HX6.out (Ext.trans hx7 hx8)
      have HVq := Lib.hid (HV3.out.keep hxq)
      have HBq := Lib.hid (HB3.out.keep hxq)
      have HEq := Lib.hid (HE3.out.keep hxq)
      have HTq := Lib.hid (HT3.out.keep hxq)
      have HXq := Lib.hid (Ext.trans HX3.out hxq)
      clear hxq hx7 hx8 HX6 HVm6 HBm6 HE6 hn HSM HRM HTM HVm HBm HV3 HB3 HE3 HT3 HX3 q0 q1 q2 q3 q4 q5 q6 q7
      obtain ⟨q0, q1, q2, q3, q4, q5, q6, q7⟩ := HBq.out.cells
      cases hr : (t.right 1 0).1
      focus
        have HR := Lib.hid hr
        have HTX := Lib.hid (show textR t = [] from by unfold textR; rw [hr]; rfl)
        clear hr
        go_wp2_with (first
          | (have := hxa; go_at_call 18; refine (rxText t (by have := HSZ.out; omega) _ _ (nodeC k m z p B n c) (HVq.out.keep hxa) (HTq.out.keep hxa)).mono ?_; rintro e wz ⟨rfl, hxz⟩; rw [HTX.out])
          | (go_at_call 17; refine (rxRight t (by have := HSZ.out; omega) _ _ (nodeC k m z p B n c) HVq.out).mono ?_; rintro e wa ⟨rfl, hxa⟩; rw [HR.out]; obtain ⟨q0, q1, q2, q3, q4, q5, q6, q7⟩ := (HBq.out.keep hxa).cells))
        go_ret
        exact ⟨by simp, Ext.trans HXq.out (Ext.trans hxa hxz)⟩
      focus
        have HR := Lib.hid hr
        have HTX := Lib.hid (show textR t = t.text from by unfold textR; rw [hr]; rfl)
        have hbl := back_law t hr
        obtain ⟨tx, htx⟩ : ∃ tx, t.text = tx := ⟨_, rfl⟩
        rw [htx] at HTX hbl
        clear hr htx
        go_wp2_with (first
          | (have := hxa; go_at_call 18; refine (rxText t (by have := HSZ.out; omega) _ _ (nodeC k m z p B n c) (HVq.out.keep hxa) (HTq.out.keep hxa)).mono ?_; rintro e wz ⟨rfl, hxz⟩; rw [HTX.out])
          | (go_at_call 17; refine (rxRight t (by have := HSZ.out; omega) _ _ (nodeC k m z p B n c) HVq.out).mono ?_; rintro e wa ⟨rfl, hxa⟩; rw [HR.out]; obtain ⟨q0, q1, q2, q3, q4, q5, q6, q7⟩ := (HBq.out.keep hxa).cells))
        have hxz2 := Ext.trans hxa hxz
        have HVz := Lib.hid (HVq.out.keep hxz2)
        have HBz := Lib.hid (HBq.out.keep hxz2)
        have HEz := Lib.hid (HEq.out.keep hxz2)
        have HTz := Lib.hid (HTq.out.keep hxz2)
        have HXz := Lib.hid (Ext.trans HXq.out hxz2)
        clear hxa hxz hxz2 q0 q1 q2 q3 q4 q5 q6 q7 HVq HBq HEq HTq HXq
        go_at_call 8
        refine (rxParse E tx _ ⟨HEz.out.some _, HTz.out⟩).mono ?_
        rintro e wp hPp
        rcases hbl with ⟨t', i, gr, hp, hsame⟩ | ⟨hp, hlen⟩ | ⟨hp, hg9⟩ | hp
        focus
          rw [hp] at hPp
          obtain ⟨hxp, v, rfl, hv⟩ := hPp
          obtain ⟨k9, m9, z9, p9, B9, n9, c9, rfl⟩ := nodeV_form hv
          have hx9 := Ext.new1 wp (.cells (nodeC k9 m9 z9 p9 B9 n9 c9).toArray 28)
          have HV9 := Lib.hid (hv.keep hx9)
          have hxp2 := Ext.trans hxp hx9
          have HX9 := Lib.hid (Ext.trans HXz.out hxp2)
          have HVn := Lib.hid (HVz.out.keep hxp2)
          have hbn := HBz.out.keep hxp2
          have HSM := Lib.hid hsame
          clear hp hsame hv hx9 hxp hxp2
          unfold nodeC at HV9 HX9 HVn hbn ⊢
          obtain ⟨q0, q1, q2, q3, q4, q5, q6, q7⟩ := hbn.cells
          clear hbn
          go_wp2_with (go_at_call 19; refine (rxSame _ t' (Nat.le_refl _) t _ _ _ (nodeC k9 m9 z9 p9 B9 n9 c9) (nodeC k m z p B n c) HV9.out HVn.out).mono ?_; rintro e wf ⟨rfl, hxf⟩; rw [HSM.out])
          go_ret
          exact ⟨rfl, Ext.trans HX9.out hxf⟩
        focus
          rw [hp] at hPp
          obtain ⟨hxp, k9, hk9, rfl⟩ := hPp
          obtain rfl : k9 = 3 := by omega
          have hn := fun w => run_eql_iface_nil (P := Tryd.prog) (w := w) 30 (by kernel_rfl) 142 (.pointer (some (E 3)))
          have hx9 := Ext.new1 wp (.cells zN.toArray 28)
          have hxp2 := Ext.trans hxp hx9
          have HX9 := Lib.hid (Ext.trans HXz.out hxp2)
          have HE9 := Lib.hid (HEz.out.keep hxp2)
          have HV9 := Lib.hid (HVz.out.keep hxp2)
          have HT9 := Lib.hid (HTz.out.keep hxp2)
          have HB9 := Lib.hid (HBz.out.keep hxp2)
          have hlen' : (120 : Int) < (tx.length : Int) := by omega
          clear hp hk9 hx9 hxp hxp2 hlen
          unfold zN at HX9 HE9 HV9 HT9 HB9
          unfold ev errV zN
          go_wp2_with (first
            | (have := hxn; go_at_call 18; refine (rxText t (by have := HSZ.out; omega) _ _ (nodeC k m z p B n c) (HV9.out.keep hxn) (HT9.out.keep hxn)).mono ?_; rintro e wf ⟨rfl, hxf⟩; rw [HTX.out])
            | (go_at_call 23; refine (numLit E 3 4 (by omega) (by omega) _ HE9.out).mono ?_; rintro e wn ⟨rfl, hxn⟩; obtain ⟨q0, q1, q2, q3, q4, q5, q6, q7⟩ := (HB9.out.keep hxn).cells))
          go_ret
          exact ⟨by simp, Ext.trans HX9.out (Ext.trans hxn hxf)⟩
        focus
          rw [hp] at hPp
          obtain ⟨hxp, k9, hk9, rfl⟩ := hPp
          obtain rfl : k9 = 1 := by omega
          have hn := fun w => run_eql_iface_nil (P := Tryd.prog) (w := w) 30 (by kernel_rfl) 142 (.pointer (some (E 1)))
          have hx9 := Ext.new1 wp (.cells zN.toArray 28)
          have hxp2 := Ext.trans hxp hx9
          have HX9 := Lib.hid (Ext.trans HXz.out hxp2)
          have HE9 := Lib.hid (HEz.out.keep hxp2)
          have HV9 := Lib.hid (HVz.out.keep hxp2)
          have HT9 := Lib.hid (HTz.out.keep hxp2)
          have HB9 := Lib.hid (HBz.out.keep hxp2)
          have hg9' : (9 : Int) < (t.groups : Int) := by omega
          clear hp hk9 hx9 hxp hxp2 hg9
          unfold zN at HX9 HE9 HV9 HT9 HB9
          unfold ev errV zN
          go_wp2_with (first
            | (have := hxn; go_at_call 9; refine (rxGroups _ t (Nat.le_refl _) (by have := HSZ.out; omega) _ _ (nodeC k m z p B n c) (HV9.out.keep hxn)).mono ?_; rintro e wf ⟨rfl, hxf⟩)
            | (go_at_call 23; refine (numLit E 1 2 (by omega) (by omega) _ HE9.out).mono ?_; rintro e wn ⟨rfl, hxn⟩; obtain ⟨q0, q1, q2, q3, q4, q5, q6, q7⟩ := (HB9.out.keep hxn).cells))
          go_ret
          exact ⟨by simp, Ext.trans HX9.out (Ext.trans hxn hxf)⟩
        focus
          rw [hp] at hPp
          obtain ⟨hxp, k9, hk9, rfl⟩ := hPp
          obtain rfl : k9 = 10 := by omega
          have hn := fun w => run_eql_iface_nil (P := Tryd.prog) (w := w) 30 (by kernel_rfl) 142 (.pointer (some (E 10)))
          have hx9 := Ext.new1 wp (.cells zN.toArray 28)
          have hxp2 := Ext.trans hxp hx9
          have HX9 := Lib.hid (Ext.trans HXz.out hxp2)
          have HE9 := Lib.hid (HEz.out.keep hxp2)
          have HV9 := Lib.hid (HVz.out.keep hxp2)
          have HT9 := Lib.hid (HTz.out.keep hxp2)
          have HB9 := Lib.hid (HBz.out.keep hxp2)
          clear hp hk9 hx9 hxp hxp2
          unfold zN at HX9 HE9 HV9 HT9 HB9
          unfold ev errV zN
          go_wp2_with (go_at_call 23; refine (numLit E 10 11 (by omega) (by omega) _ HE9.out).mono ?_; rintro e wn ⟨rfl, hxn⟩; obtain ⟨q0, q1, q2, q3, q4, q5, q6, q7⟩ := (HB9.out.keep hxn).cells)
          go_ret
          exact ⟨by simp, Ext.trans HX9.out hxn⟩
    focus
      omega
    focus
      rw [hp] at hP5
      obtain ⟨hx5, k9, hk9, rfl⟩ := hP5
      obtain rfl : k9 = 10 := by omega
      have hn := fun w => run_eql_iface_nil (P := Tryd.prog) (w := w) 30 (by kernel_rfl) 142 (.pointer (some (E 10)))
      have hx9 := Ext.new1 w5 (.cells zN.toArray 28)
      have hx6 := Ext.trans hx4 (Ext.trans hx5 hx9)
      have HX6 := Lib.hid hx6
      have HVm6 := Lib.hid (HVm.out.keep hx6)
      have HBm6 := Lib.hid (HBm.out.keep hx6)
      have HE6 := Lib.hid (HE3.out.keep hx6)
      clear hp hk9 hx9 hx4 hx5 hx6 hgm
      unfold zN at HX6 HVm6 HBm6 HE6
      unfold ev errV zN
      go_upto_region 8 with fail
      generalize w5.alloc (.cells #[.int .i64 0, .int .i64 0, .bool false, .int .u64 0, .int .u64 0, .int .u64 0, .int .u64 0, .slice none 0 0] 28) = w6 at *
      obtain ⟨q0, q1, q2, q3, q4, q5, q6, q7⟩ := HBm6.out.cells
      go_upto_region 10 with (first
        | (have := hx8; go_at_call 23; refine (numLit E 10 11 (by omega) (by omega) _ ((HE6.out.keep hx7).keep hx8)).mono ?_; rintro e wq ⟨rfl, hx8b⟩)
        | (have := hx7; go_at_call 23; refine (numLit E 10 11 (by omega) (by omega) _ (HE6.out.keep hx7)).mono ?_; rintro e w8 ⟨rfl, hx8⟩)
        | (go_at_call 17; refine (rxRight mt (by have := HSM.out; omega) _ _ (nodeC km mm zm pm Bm nm cm) HVm6.out).mono ?_; rintro e w7 ⟨rfl, hx7⟩; rw [HRM.out]))
      have hxq := Ext.trans HX6.out (Ext.trans hx7 (Ext.trans hx8 hx8b))
      have HVq := Lib.hid (HV3.out.keep hxq)
      have HBq := Lib.hid (HB3.out.keep hxq)
      have HEq := Lib.hid (HE3.out.keep hxq)
      have HTq := Lib.hid (HT3.out.keep hxq)
      have HXq := Lib.hid (Ext.trans HX3.out hxq)
      clear hxq hx7 hx8 hx8b HX6 HVm6 HBm6 HE6 hn HSM HRM HTM HVm HBm HV3 HB3 HE3 HT3 HX3 q0 q1 q2 q3 q4 q5 q6 q7
      obtain ⟨q0, q1, q2, q3, q4, q5, q6, q7⟩ := HBq.out.cells
      cases hr : (t.right 1 0).1
      focus
        have HR := Lib.hid hr
        have HTX := Lib.hid (show textR t = [] from by unfold textR; rw [hr]; rfl)
        clear hr
        go_wp2_with (first
          | (have := hxa; go_at_call 18; refine (rxText t (by have := HSZ.out; omega) _ _ (nodeC k m z p B n c) (HVq.out.keep hxa) (HTq.out.keep hxa)).mono ?_; rintro e wz ⟨rfl, hxz⟩; rw [HTX.out])
          | (go_at_call 17; refine (rxRight t (by have := HSZ.out; omega) _ _ (nodeC k m z p B n c) HVq.out).mono ?_; rintro e wa ⟨rfl, hxa⟩; rw [HR.out]; obtain ⟨q0, q1, q2, q3, q4, q5, q6, q7⟩ := (HBq.out.keep hxa).cells))
        go_ret
        exact ⟨by simp, Ext.trans HXq.out (Ext.trans hxa hxz)⟩
      focus
        have HR := Lib.hid hr
        have HTX := Lib.hid (show textR t = t.text from by unfold textR; rw [hr]; rfl)
        have hbl := back_law t hr
        obtain ⟨tx, htx⟩ : ∃ tx, t.text = tx := ⟨_, rfl⟩
        rw [htx] at HTX hbl
        clear hr htx
        go_wp2_with (first
          | (have := hxa; go_at_call 18; refine (rxText t (by have := HSZ.out; omega) _ _ (nodeC k m z p B n c) (HVq.out.keep hxa) (HTq.out.keep hxa)).mono ?_; rintro e wz ⟨rfl, hxz⟩; rw [HTX.out])
          | (go_at_call 17; refine (rxRight t (by have := HSZ.out; omega) _ _ (nodeC k m z p B n c) HVq.out).mono ?_; rintro e wa ⟨rfl, hxa⟩; rw [HR.out]; obtain ⟨q0, q1, q2, q3, q4, q5, q6, q7⟩ := (HBq.out.keep hxa).cells))
        have hxz2 := Ext.trans hxa hxz
        have HVz := Lib.hid (HVq.out.keep hxz2)
        have HBz := Lib.hid (HBq.out.keep hxz2)
        have HEz := Lib.hid (HEq.out.keep hxz2)
        have HTz := Lib.hid (HTq.out.keep hxz2)
        have HXz := Lib.hid (Ext.trans HXq.out hxz2)
        clear hxa hxz hxz2 q0 q1 q2 q3 q4 q5 q6 q7 HVq HBq HEq HTq HXq
        go_at_call 8
        refine (rxParse E tx _ ⟨HEz.out.some _, HTz.out⟩).mono ?_
        rintro e wp hPp
        rcases hbl with ⟨t', i, gr, hp, hsame⟩ | ⟨hp, hlen⟩ | ⟨hp, hg9⟩ | hp
        focus
          rw [hp] at hPp
          obtain ⟨hxp, v, rfl, hv⟩ := hPp
          obtain ⟨k9, m9, z9, p9, B9, n9, c9, rfl⟩ := nodeV_form hv
          have hx9 := Ext.new1 wp (.cells (nodeC k9 m9 z9 p9 B9 n9 c9).toArray 28)
          have HV9 := Lib.hid (hv.keep hx9)
          have hxp2 := Ext.trans hxp hx9
          have HX9 := Lib.hid (Ext.trans HXz.out hxp2)
          have HVn := Lib.hid (HVz.out.keep hxp2)
          have hbn := HBz.out.keep hxp2
          have HSM := Lib.hid hsame
          clear hp hsame hv hx9 hxp hxp2
          unfold nodeC at HV9 HX9 HVn hbn ⊢
          obtain ⟨q0, q1, q2, q3, q4, q5, q6, q7⟩ := hbn.cells
          clear hbn
          go_wp2_with (go_at_call 19; refine (rxSame _ t' (Nat.le_refl _) t _ _ _ (nodeC k9 m9 z9 p9 B9 n9 c9) (nodeC k m z p B n c) HV9.out HVn.out).mono ?_; rintro e wf ⟨rfl, hxf⟩; rw [HSM.out])
          go_ret
          exact ⟨rfl, Ext.trans HX9.out hxf⟩
        focus
          rw [hp] at hPp
          obtain ⟨hxp, k9, hk9, rfl⟩ := hPp
          obtain rfl : k9 = 3 := by omega
          have hn := fun w => run_eql_iface_nil (P := Tryd.prog) (w := w) 30 (by kernel_rfl) 142 (.pointer (some (E 3)))
          have hx9 := Ext.new1 wp (.cells zN.toArray 28)
          have hxp2 := Ext.trans hxp hx9
          have HX9 := Lib.hid (Ext.trans HXz.out hxp2)
          have HE9 := Lib.hid (HEz.out.keep hxp2)
          have HV9 := Lib.hid (HVz.out.keep hxp2)
          have HT9 := Lib.hid (HTz.out.keep hxp2)
          have HB9 := Lib.hid (HBz.out.keep hxp2)
          have hlen' : (120 : Int) < (tx.length : Int) := by omega
          clear hp hk9 hx9 hxp hxp2 hlen
          unfold zN at HX9 HE9 HV9 HT9 HB9
          unfold ev errV zN
          go_wp2_with (first
            | (have := hxn; go_at_call 18; refine (rxText t (by have := HSZ.out; omega) _ _ (nodeC k m z p B n c) (HV9.out.keep hxn) (HT9.out.keep hxn)).mono ?_; rintro e wf ⟨rfl, hxf⟩; rw [HTX.out])
            | (go_at_call 23; refine (numLit E 3 4 (by omega) (by omega) _ HE9.out).mono ?_; rintro e wn ⟨rfl, hxn⟩; obtain ⟨q0, q1, q2, q3, q4, q5, q6, q7⟩ := (HB9.out.keep hxn).cells))
          go_ret
          exact ⟨by simp, Ext.trans HX9.out (Ext.trans hxn hxf)⟩
        focus
          rw [hp] at hPp
          obtain ⟨hxp, k9, hk9, rfl⟩ := hPp
          obtain rfl : k9 = 1 := by omega
          have hn := fun w => run_eql_iface_nil (P := Tryd.prog) (w := w) 30 (by kernel_rfl) 142 (.pointer (some (E 1)))
          have hx9 := Ext.new1 wp (.cells zN.toArray 28)
          have hxp2 := Ext.trans hxp hx9
          have HX9 := Lib.hid (Ext.trans HXz.out hxp2)
          have HE9 := Lib.hid (HEz.out.keep hxp2)
          have HV9 := Lib.hid (HVz.out.keep hxp2)
          have HT9 := Lib.hid (HTz.out.keep hxp2)
          have HB9 := Lib.hid (HBz.out.keep hxp2)
          have hg9' : (9 : Int) < (t.groups : Int) := by omega
          clear hp hk9 hx9 hxp hxp2 hg9
          unfold zN at HX9 HE9 HV9 HT9 HB9
          unfold ev errV zN
          go_wp2_with (first
            | (have := hxn; go_at_call 9; refine (rxGroups _ t (Nat.le_refl _) (by have := HSZ.out; omega) _ _ (nodeC k m z p B n c) (HV9.out.keep hxn)).mono ?_; rintro e wf ⟨rfl, hxf⟩)
            | (go_at_call 23; refine (numLit E 1 2 (by omega) (by omega) _ HE9.out).mono ?_; rintro e wn ⟨rfl, hxn⟩; obtain ⟨q0, q1, q2, q3, q4, q5, q6, q7⟩ := (HB9.out.keep hxn).cells))
          go_ret
          exact ⟨by simp, Ext.trans HX9.out (Ext.trans hxn hxf)⟩
        focus
          rw [hp] at hPp
          obtain ⟨hxp, k9, hk9, rfl⟩ := hPp
          obtain rfl : k9 = 10 := by omega
          have hn := fun w => run_eql_iface_nil (P := Tryd.prog) (w := w) 30 (by kernel_rfl) 142 (.pointer (some (E 10)))
          have hx9 := Ext.new1 wp (.cells zN.toArray 28)
          have hxp2 := Ext.trans hxp hx9
          have HX9 := Lib.hid (Ext.trans HXz.out hxp2)
          have HE9 := Lib.hid (HEz.out.keep hxp2)
          have HV9 := Lib.hid (HVz.out.keep hxp2)
          have HT9 := Lib.hid (HTz.out.keep hxp2)
          have HB9 := Lib.hid (HBz.out.keep hxp2)
          clear hp hk9 hx9 hxp hxp2
          unfold zN at HX9 HE9 HV9 HT9 HB9
          unfold ev errV zN
          go_wp2_with (go_at_call 23; refine (numLit E 10 11 (by omega) (by omega) _ HE9.out).mono ?_; rintro e wn ⟨rfl, hxn⟩; obtain ⟨q0, q1, q2, q3, q4, q5, q6, q7⟩ := (HB9.out.keep hxn).cells)
          go_ret
          exact ⟨by simp, Ext.trans HX9.out hxn⟩
end Go.Proofs.YthjnbpfbhmfopaaDoor
