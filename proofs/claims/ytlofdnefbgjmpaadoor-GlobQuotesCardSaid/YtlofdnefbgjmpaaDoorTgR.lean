/- Put together: Rx33, Rx34. -/
import Derived.Test.YtlofdnefbgjmpaaDoorTgL
import Derived.Test.YtlofdnefbgjmpaaDoorTgQ
namespace Go.Proofs.YtlofdnefbgjmpaaDoor
open Go Go.RowKit
attribute [local irreducible] wd

theorem same_take {ks ls : List T} {i : Nat} (h1 : i < ks.length) (h2 : i < ls.length) : sameL (ks.take (i + 1)) (ls.take (i + 1)) = (sameL (ks.take i) (ls.take i) && (ks[i]'h1).same (ls[i]'h2)) := by
  induction ks generalizing ls i with
  | nil => simp at h1
  | cons t ts ih =>
    cases ls with
    | nil => simp at h2
    | cons u us =>
      cases i with
      | zero => simp [sameL]
      | succ i =>
        have h1' : i < ts.length := by simpa using h1
        have h2' : i < us.length := by simpa using h2
        rw [List.take_succ_cons, List.take_succ_cons, List.take_succ_cons, List.take_succ_cons, sameL, sameL, ih h1' h2', Bool.and_assoc]
        rfl
theorem same_at {ks ls : List T} (h : sameL ks ls = true) {i : Nat} (h1 : i < ks.length) (h2 : i < ls.length) : (ks[i]'h1).same (ls[i]'h2) = true := by
  induction ks generalizing ls i with
  | nil => simp at h1
  | cons t ts ih =>
    cases ls with
    | nil => simp at h2
    | cons u us =>
      rw [sameL, Bool.and_eq_true] at h
      cases i with
      | zero => exact h.1
      | succ i => exact ih h.2 (by simpa using h1) (by simpa using h2)
/-- A function of two nodes that tells of each of these whether another one is the same. -/
def FnSame (F : FuncId) (ks : List T) : Prop :=
  ∀ x ∈ ks, ∀ y S S' w v v', NodeV S w x v → NodeV S' w y v' → Calls Tryd.prog F #[.agg v.toArray, .agg v'.toArray] w fun e w' => e = .returned (.bool (x.same y)) ∧ Ext w w'

set_option maxHeartbeats 4000000 in
set_option maxRecDepth 20000 in
theorem rxEqual {S S' : Nat → Prop} {w : World} {A A' : Option Addr} {ks ls : List T} {cs ds : List Value} (c c' : Nat) (hf : FnSame 19 ks) (hR : Rd w 8 A ks.length cs) (hK : KidsV S w ks cs) (hR' : Rd w 8 A' ls.length ds) (hK' : KidsV S' w ls ds) (hl : ks.length ≤ maxLen) (_ : ls.length ≤ maxLen) :
    Calls Tryd.prog 62 #[.slice A ks.length c, .slice A' ls.length c', .func (.func 19) #[] #[]] w fun e w' => e = .returned (.bool (sameL ks ls)) ∧ Ext w w' := by
  have HR := Lib.hid hR
  have HK := Lib.hid hK
  have HR' := Lib.hid hR'
  have HK' := Lib.hid hK'
  unfold maxLen at hl
  clear hR hK hR' hK'
  by_cases hlen : ks.length = ls.length
  · go_enter Tryd.func62, Tryd.ntmps62
    have hne : ((ks.length : Int) != (ls.length : Int)) = false := by rw [hlen]; simp
    have HLEN := Lib.hid hlen
    clear hlen
    go_wp2
    clear hne
    go_loopg [17] (ks.length) (fun g a wr => ∃ i : Nat, i ≤ ks.length ∧ g = ks.length - i ∧ a = .int .i64 (i : Nat) ∧ sameL (ks.take i) (ls.take i) = true ∧ Ext w wr)
    case atStart => exact ⟨0, by omega, rfl, rfl, by simp [sameL], Ext.refl _⟩
    case round =>
      obtain ⟨i, hi, rfl, rfl, hno, hx⟩ := hrel
      have HNO := Lib.hid hno
      clear hno
      by_cases hlt : i < ks.length
      · have hlt2 : i < ls.length := by rw [← HLEN.out]; exact hlt
        obtain ⟨b, o, k1, m1, z1, p1, B1, n1, cc1, rfl, hv, hk⟩ := kid_at HR.out HK.out hlt
        obtain ⟨b2, o2, k2, m2, z2, p2, B2, n2, cc2, rfl, hv2, hk2⟩ := kid_at HR'.out HK'.out hlt2
        obtain ⟨c0, c1, c2, c3, c4, c5, c6, c7⟩ := hk.out wr hx
        have hx1 := Ext.trans hx (Ext.new1 wr (.cells (nodeC k1 m1 z1 p1 B1 n1 cc1).toArray 28))
        obtain ⟨d0, d1, d2, d3, d4, d5, d6, d7⟩ := hk2.out _ hx1
        have hx2 := Ext.trans hx1 (Ext.new1 _ (.cells (nodeC k2 m2 z2 p2 B2 n2 cc2).toArray 28))
        have HX2 := Lib.hid hx2
        have hlt' : (i : Int) < (ks.length : Int) := by omega
        have hlt2' : (i : Int) < (ls.length : Int) := by omega
        have hw2 : IntKind.i64.wrap ((i : Int) + 1) = (i : Int) + 1 := wrap_id (by omega) (by omega)
        obtain ⟨x, hxe⟩ : ∃ x, ks[i]'hlt = x := ⟨_, rfl⟩
        obtain ⟨y, hye⟩ : ∃ y, ls[i]'hlt2 = y := ⟨_, rfl⟩
        have HM := Lib.hid (show x ∈ ks from hxe ▸ List.getElem_mem hlt)
        have HVX := Lib.hid (show NodeV S _ x (nodeC k1 m1 z1 p1 B1 n1 cc1) from hxe ▸ hv.keep hx2)
        have HVY := Lib.hid (show NodeV S' _ y (nodeC k2 m2 z2 p2 B2 n2 cc2) from hye ▸ hv2.keep hx2)
        have HT := Lib.hid (show sameL (ks.take (i + 1)) (ls.take (i + 1)) = x.same y by rw [same_take hlt hlt2, HNO.out, hxe, hye]; rfl)
        have HA := Lib.hid (show sameL ks ls = true → x.same y = true by intro h; rw [← hxe, ← hye]; exact same_at h hlt hlt2)
        have hxw := Lib.hid hx
        clear hv hv2 hk hk2 hxe hye hx1 hx2 hx
        unfold nodeC at d0 d1 d2 d3 d4 d5 d6 d7 HVX HVY HX2
        cases hP : x.same y
        · have HP := Lib.hid hP
          have HF := Lib.hid (show sameL ks ls = false from by
            cases h : sameL ks ls
            · rfl
            · have := HA.out h; rw [hP] at this; cases this)
          clear hP
          go_wp2_with (go_at_call 19; refine (hf x HM.out y S S' _ (nodeC k1 m1 z1 p1 B1 n1 cc1) (nodeC k2 m2 z2 p2 B2 n2 cc2) HVX.out HVY.out).mono ?_; rintro e w1 ⟨rfl, hx1⟩; rw [HP.out])
          go_ret
          exact ⟨by rw [HF.out]; rfl, Ext.trans HX2.out hx1⟩
        · have HP := Lib.hid hP
          clear hP
          go_wp2_with (go_at_call 19; refine (hf x HM.out y S S' _ (nodeC k1 m1 z1 p1 B1 n1 cc1) (nodeC k2 m2 z2 p2 B2 n2 cc2) HVX.out HVY.out).mono ?_; rintro e w1 ⟨rfl, hx1⟩; rw [HP.out])
          go_roundg (ks.length - (i + 1))
          case measure => omega
          case rel => exact ⟨i + 1, by omega, rfl, by go_num, by rw [HT.out, HP.out], Ext.trans HX2.out hx1⟩
      · obtain rfl : i = ks.length := by omega
        have hno := HNO.out
        rw [List.take_length, HLEN.out, List.take_length] at hno
        have HN := Lib.hid hno
        clear hno
        go_wp2
        go_ret
        exact ⟨by rw [HN.out]; rfl, hx⟩
  · have hne : ((ks.length : Int) != (ls.length : Int)) = true := by simp; omega
    have HF := Lib.hid (show sameL ks ls = false from by
      cases h : sameL ks ls
      · rfl
      · exact absurd (same_len h) hlen)
    clear hlen
    go_enter Tryd.func62, Tryd.ntmps62
    go_wp2
    go_ret
    exact ⟨by rw [HF.out]; rfl, Ext.refl _⟩

set_option maxHeartbeats 8000000 in
set_option maxRecDepth 20000 in
theorem rxSame : ∀ n, ∀ t : T, t.size ≤ n → ∀ u S S' w v v', NodeV S w t v → NodeV S' w u v' →
    Calls Tryd.prog 19 #[.agg v.toArray, .agg v'.toArray] w fun e w' => e = .returned (.bool (t.same u)) ∧ Ext w w' := by
  intro n
  induction n with
  | zero => intro t ht; have := size_pos t; omega
  | succ n ih =>
    intro t ht u S S' w v v' h h'
    cases t with
    | node k m z p ks =>
    cases u with
    | node k' m' z' p' ls =>
      unfold NodeV at h h'
      obtain ⟨A, c, cs, rfl, h1, h2, h3, h4, h5⟩ := h
      obtain ⟨A', c', ds, rfl, g1, g2, g3, g4, g5⟩ := h'
      rw [size_node] at ht
      have hf : FnSame 19 ks := fun x hx y S S' w v v' hv hv' => by
        have := sizeL_mem hx
        exact ih x (by omega) y S S' w v v' hv hv'
      have hl : ks.length ≤ maxLen := Nat.le_trans h1 h2
      have hl' : ls.length ≤ maxLen := Nat.le_trans g1 g2
      have hx0 := Lib.hid (Ext.trans (Ext.new1 w (.cells (nodeC k m z p A ks.length c).toArray 28)) (Ext.new1 _ (.cells (nodeC k' m' z' p' A' ls.length c').toArray 28)))
      have HR := Lib.hid (h3.keep hx0.out)
      have HK := Lib.hid (kidsV_map (fun t v h => NodeV.keep h hx0.out) h5)
      have HR' := Lib.hid (g3.keep hx0.out)
      have HK' := Lib.hid (kidsV_map (fun t v h => NodeV.keep h hx0.out) g5)
      have HL := Lib.hid (And.intro hl hl')
      have heq := Lib.hid (fun w => eq_sp p p' w)
      unfold sp at heq
      have hsm : T.same (.node k m z p ks) (.node k' m' z' p' ls) = ((decide (k = k') && decide (m = m') && (z == z') && sameP p p') && sameL ks ls) := by rw [T.same]
      have HF := Lib.hid hf
      clear h1 h2 h3 h4 h5 g1 g2 g3 g4 g5 hf hl hl' ih ht
      unfold nodeC at hx0 HR HK HR' HK' ⊢
      by_cases ek : k = k'
      rotate_left
      · have eb : (k == k') = false := by simp [ek]
        rw [decide_eq_false ek] at hsm
        simp only [Bool.false_and] at hsm
        clear ek
        rw [hsm]
        clear hsm
        go_enter Tryd.func19, Tryd.ntmps19
        go_wp2
        go_ret
        exact ⟨by simp, hx0.out⟩
      subst ek
      by_cases em : m = m'
      rotate_left
      · have eb : (m == m') = false := by simp [em]
        rw [decide_eq_false em] at hsm
        simp only [Bool.false_and, Bool.and_false] at hsm
        clear em
        rw [hsm]
        clear hsm
        go_enter Tryd.func19, Tryd.ntmps19
        go_wp2
        go_ret
        exact ⟨by simp, hx0.out⟩
      subst em
      by_cases ez : z = z'
      rotate_left
      · have eb : (z == z') = false := by simp [ez]
        rw [eb] at hsm
        simp only [Bool.false_and, Bool.and_false] at hsm
        clear ez
        rw [hsm]
        clear hsm
        go_enter Tryd.func19, Tryd.ntmps19
        go_wp2
        go_ret
        exact ⟨by simp, hx0.out⟩
      subst ez
      cases es : sameP p p'
      · rw [es] at hsm
        simp only [Bool.false_and, Bool.and_false] at hsm
        have heq2 := heq.out
        rw [es] at heq2
        clear es
        rw [hsm]
        clear hsm
        go_enter Tryd.func19, Tryd.ntmps19
        go_wp2
        go_ret
        exact ⟨by simp, hx0.out⟩
      · rw [es] at hsm
        simp only [decide_true, beq_self_eq_true, Bool.and_true, Bool.true_and] at hsm
        have heq2 := heq.out
        rw [es] at heq2
        rw [hsm]
        clear es hsm
        go_enter Tryd.func19, Tryd.ntmps19
        go_wp2_with (go_at_call 62; refine (rxEqual c c' HF.out HR.out HK.out HR'.out HK'.out HL.out.1 HL.out.2).mono ?_; rintro e w1 ⟨rfl, hx1⟩)
        go_ret
        exact ⟨by simp, Ext.trans hx0.out hx1⟩
end Go.Proofs.YtlofdnefbgjmpaaDoor
namespace Go.Proofs.YtlofdnefbgjmpaaDoor
open Go Go.RowKit
attribute [local irreducible] wd

mutual
def greatF : T → Int → Nat → Int
  | .node _ _ _ _ ks, left, deep => if deep = 0 ∨ left ≤ 0 then -1 else greatL ks (left - 1) (deep - 1)
def greatL : List T → Int → Nat → Int
  | [], left, _ => left
  | t :: ts, left, d => greatL ts (if 0 ≤ left then greatF t left d else left) d
end
mutual
theorem greatF_le : ∀ (t : T) (left : Int) (d : Nat), -1 ≤ left → -1 ≤ greatF t left d ∧ (greatF t left d ≤ left) ∧ (0 ≤ greatF t left d → greatF t left d + t.size ≤ left)
  | .node k m z p ks, left, d, h => by
    rw [greatF, size_node]
    split
    · omega
    · have := greatL_le ks (left - 1) (d - 1) (by omega)
      omega
theorem greatL_le : ∀ (ks : List T) (left : Int) (d : Nat), -1 ≤ left → -1 ≤ greatL ks left d ∧ (greatL ks left d ≤ left) ∧ (0 ≤ greatL ks left d → greatL ks left d + sizeL ks ≤ left)
  | [], left, d, h => by rw [greatL, sizeL]; omega
  | t :: ts, left, d, h => by
    have h1 := greatF_le t left d h
    rw [greatL, sizeL]
    split
    · have h2 := greatL_le ts (greatF t left d) d (by omega)
      omega
    · have h2 := greatL_le ts left d h
      omega
end
theorem greatL_append (a b : List T) (left : Int) (d : Nat) : greatL (a ++ b) left d = greatL b (greatL a left d) d := by
  induction a generalizing left with
  | nil => rw [List.nil_append, greatL]
  | cons x r ih => rw [List.cons_append, greatL, greatL, ih]
theorem greatL_take {ks : List T} {i : Nat} (hi : i < ks.length) (left : Int) (d : Nat) : greatL (ks.take (i + 1)) left d = if 0 ≤ greatL (ks.take i) left d then greatF (ks[i]'hi) (greatL (ks.take i) left d) d else greatL (ks.take i) left d := by
  rw [List.take_succ_eq_append_getElem hi, greatL_append, greatL, greatL]
def T.great (t : T) : Bool := decide (greatF t 60 45 < 0)
theorem great_size {t : T} (h : t.great = false) : t.size ≤ 60 := by
  unfold T.great at h
  have := greatF_le t 60 45 (by omega)
  simp at h
  omega

set_option maxHeartbeats 4000000 in
set_option maxRecDepth 20000 in
theorem lawGreatF : ∀ n, ∀ t : T, t.size ≤ n → ∀ S w v left deep, NodeV S w t v → -1 ≤ left → left ≤ 60 → deep ≤ 45 →
    Calls Tryd.prog 63 #[.agg v.toArray, .int .i64 left, .int .i64 (deep : Nat)] w fun e w' => e = .returned (.int .i64 (greatF t left deep)) ∧ Ext w w' := by
  intro n
  induction n with
  | zero => intro t ht; have := size_pos t; omega
  | succ n ih =>
    intro t ht S w v left deep h hl1 hl2 hdp
    cases t with
    | node k m z p ks =>
      unfold NodeV at h
      obtain ⟨A, c, cs, rfl, h1, h2, h3, h4, h5⟩ := h
      rw [size_node] at ht
      have HR := Lib.hid h3
      have HK := Lib.hid h5
      have hlk := sizeL_len ks
      have hx0 := Lib.hid (Ext.new1 w (.cells (nodeC k m z p A ks.length c).toArray 28))
      unfold maxLen at h2
      have hkl : ks.length ≤ 9223372036854775807 := by omega
      clear h3 h4 h5 h2
      unfold nodeC at hx0 ⊢
      by_cases hd0 : deep = 0
      · subst hd0
        rw [greatF, if_pos (.inl rfl)]
        go_enter Tryd.func63, Tryd.ntmps63
        go_wp2
        go_ret
        exact ⟨rfl, hx0.out⟩
      have hdb : ((deep : Int) == 0) = false := by simp; omega
      by_cases hl0 : left ≤ 0
      · rw [greatF, if_pos (.inr hl0)]
        clear hd0
        go_enter Tryd.func63, Tryd.ntmps63
        go_wp2
        go_ret
        exact ⟨rfl, hx0.out⟩
      rw [greatF, if_neg (by omega)]
      have hw3 : IntKind.i64.wrap ((deep : Int) - 1) = ((deep - 1 : Nat) : Int) := by rw [wrap_id (by omega) (by omega)]; omega
      obtain ⟨dp, hdp2⟩ : ∃ dp, deep - 1 = dp := ⟨_, rfl⟩
      obtain ⟨l1, hl⟩ : ∃ l1, left - 1 = l1 := ⟨_, rfl⟩
      rw [hdp2] at hw3
      have hw1 : IntKind.i64.wrap (left - 1) = l1 := by rw [wrap_id (by omega) (by omega)]; exact hl
      have HD := Lib.hid (show dp ≤ 45 by omega)
      have hb1 : 0 ≤ l1 := by omega
      have hb2 : l1 ≤ 60 := by omega
      rw [hdp2, hl]
      clear hd0 hdp2 hl hl1 hl2 hdp
      go_enter Tryd.func63, Tryd.ntmps63
      go_wp2
      clear hw1 hl0
      go_loopg [1, 20] (ks.length) (fun g a b wr => ∃ i : Nat, i ≤ ks.length ∧ g = ks.length - i ∧ a = .int .i64 (greatL (ks.take i) l1 dp) ∧ b = .int .i64 (i : Nat) ∧ Ext w wr)
      case atStart => exact ⟨0, by omega, rfl, by rw [List.take_zero, greatL], rfl, hx0.out⟩
      case round =>
        obtain ⟨i, hi, rfl, rfl, rfl, hx⟩ := hrel
        by_cases hlt : i < ks.length
        · obtain ⟨b, o, k', m', z', p', B, n', c', rfl, hv, hk⟩ := kid_at HR.out HK.out hlt
          obtain ⟨c0, c1, c2, c3, c4, c5, c6, c7⟩ := hk.out wr hx
          have hmem := sizeL_mem (List.getElem_mem hlt)
          have hstep := greatL_take hlt l1 dp
          have hbd := greatL_le (ks.take i) l1 dp (by omega)
          obtain ⟨q, hq⟩ : ∃ q, greatL (ks.take i) l1 dp = q := ⟨_, rfl⟩
          rw [hq] at hstep hbd ⊢
          have hw2 : IntKind.i64.wrap ((i : Int) + 1) = (i : Int) + 1 := wrap_id (by omega) (by omega)
          have hlt' : (i : Int) < (ks.length : Int) := by omega
          have HV := Lib.hid (hv.keep hx)
          have HT := Lib.hid (show (ks[i]'hlt).size ≤ n by omega)
          have HB := Lib.hid (show -1 ≤ q ∧ q ≤ 60 by omega)
          have hxn := Lib.hid (Ext.trans hx (Ext.new1 wr (.cells (nodeC k' m' z' p' B n' c').toArray 28)))
          by_cases h0 : 0 ≤ q
          · rw [if_pos h0] at hstep
            have HS := Lib.hid hstep
            clear hv hstep hmem hq hbd ht hk
            go_wp2_with (go_at_call 63; refine (ih _ HT.out S _ (nodeC k' m' z' p' B n' c') q dp (HV.out.keep (by (first | exact Ext.refl _ | (unfold Ext; repeat (first | exact Below.refl _ _ | assumption | refine Below.alloc ?_ (by first | (simp; done) | (simp; omega) | omega) _ | refine Below.setCell ?_ (by first | (simp; done) | (simp; omega) | omega) _ | refine Below.drew ?_))))) HB.out.1 HB.out.2 HD.out).mono ?_; rintro e w1 ⟨rfl, hx1⟩)
            go_roundg (ks.length - (i + 1))
            case measure => omega
            case rel => exact ⟨i + 1, by omega, rfl, by rw [HS.out], by go_num, Ext.trans hx (Ext.trans (Ext.new1 _ _) hx1)⟩
          · rw [if_neg h0] at hstep
            have HS := Lib.hid hstep
            clear hv hstep hmem hq hbd ht hk
            go_wp2
            go_roundg (ks.length - (i + 1))
            case measure => omega
            case rel => exact ⟨i + 1, by omega, rfl, by rw [HS.out], by go_num, hxn.out⟩
        · obtain rfl : i = ks.length := by omega
          have hlt' : ¬ (ks.length : Int) < (ks.length : Int) := by omega
          rw [List.take_length]
          go_wp2
          go_ret
          exact ⟨rfl, hx⟩

set_option maxHeartbeats 1000000 in
set_option maxRecDepth 20000 in
theorem lawGreat (t : T) (S : Nat → Prop) (w : World) (v : List Value) (h : NodeV S w t v) :
    Calls Tryd.prog 21 #[.agg v.toArray] w fun e w' => e = .returned (.bool t.great) ∧ Ext w w' := by
  obtain ⟨k, m, z, p, B, n, c, rfl⟩ := nodeV_form h
  have hx0 := Lib.hid (Ext.new1 w (.cells (nodeC k m z p B n c).toArray 28))
  have HV := Lib.hid (h.keep hx0.out)
  have hg : t.great = decide (greatF t 60 45 < 0) := rfl
  rw [hg]
  clear h hg
  unfold nodeC at hx0 HV ⊢
  obtain ⟨q, hq⟩ : ∃ q, greatF t 60 45 = q := ⟨_, rfl⟩
  have HQ := Lib.hid hq
  rw [hq]
  clear hq
  go_enter Tryd.func21, Tryd.ntmps21
  go_wp2_with (go_at_call 63; refine (lawGreatF t.size t (Nat.le_refl _) S _ (nodeC k m z p B n c) 60 45 HV.out (by omega) (by omega) (by omega)).mono ?_; rintro e w1 ⟨rfl, hx1⟩; rw [HQ.out])
  go_ret
  exact ⟨rfl, Ext.trans hx0.out hx1⟩
end Go.Proofs.YtlofdnefbgjmpaaDoor
