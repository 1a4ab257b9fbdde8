/- Put together: Dn8. -/
import Derived.Test.YtnkhiohopcadmaaDoorTgW
import Derived.Test.YtnkhiohopcadmaaDoorTgX
import Derived.Test.YtnkhiohopcadmaaDoorTgY
import Derived.Test.YtnkhiohopcadmaaDoorTgZ
import Derived.Test.YtnkhiohopcadmaaDoorThA
import Derived.Test.YtnkhiohopcadmaaDoorTgV
namespace Go.Proofs.YtnkhiohopcadmaaDoor
open Go Go.RowKit

set_option maxHeartbeats 8000000 in
set_option maxRecDepth 20000 in
theorem refFine : ∀ n, FineOK n := by
  intro n
  induction n with
  | zero => intro t ht; have := size_pos t; omega
  | succ n ih =>
    intro t ht S w v d h hd
    cases t with
    | node k m z p ks =>
      rw [size_node] at ht
      have hks : sizeL ks ≤ n := by omega
      by_cases hd40 : 40 < d
      · obtain ⟨A, c, cs, rfl, _⟩ := h.kids
        have hx0 := Lib.hid (Ext.new1 w (.cells (dnC k m z p A ks.length c).toArray 34))
        have hfe : fineF (.node k m z p ks) d = false := by rw [fineF, decide_eq_true hd40]; simp
        have hd' : (40 : Int) < (d : Int) := by omega
        rw [hfe]
        clear hfe hd40 h ht hks
        go_enter Tryd.func37, Tryd.ntmps37
        go_wp2
        go_ret
        exact ⟨rfl, hx0.out⟩
      by_cases k12 : k = 1 ∨ k = 2
      · exact refFinea n ih k m z p ks hks k12 S w v d h (by omega)
      by_cases k3 : k = 3
      · exact refFineb n ih k m z p ks hks k3 S w v d h (by omega)
      by_cases k4 : k = 4
      · exact refFinec n ih k m z p ks hks k4 S w v d h (by omega)
      by_cases k56 : k = 5 ∨ k = 6
      · exact refFined n ih k m z p ks hks k56 S w v d h (by omega)
      by_cases k78 : k = 7 ∨ k = 8
      · exact refFinee n ih k m z p ks hks k78 S w v d h (by omega)
      obtain ⟨A, c, cs, rfl, _⟩ := h.kids
      have hx0 := Lib.hid (Ext.new1 w (.cells (dnC k m z p A ks.length c).toArray 34))
      have HB0 := Lib.hid (DB.new w k m z p A ks.length c)
      have hfe : fineF (.node k m z p ks) d = false := by
        have hko : kidsOk k ks.length = false := by unfold kidsOk; rw [if_neg k12, if_neg (by omega), if_neg (by omega)]
        rw [fineF, hko]; simp
      have hd' : ¬ (40 : Int) < (d : Int) := by omega
      rw [hfe]
      by_cases k0 : k < 1
      · clear hfe hd40 h ht hks k12 k3 k4 k56 k78
        go_enter Tryd.func37, Tryd.ntmps37
        go_upto_region 1 with fail
        generalize w.alloc (.cells (dnC k m z p A ks.length c).toArray 34) = wb at *
        have y0 := HB0.out.kind
        go_wp2
        go_ret
        exact ⟨rfl, hx0.out⟩
      · have k9 : 8 < k := by omega
        clear hfe hd40 h ht hks k12 k3 k4 k56 k78
        go_enter Tryd.func37, Tryd.ntmps37
        go_upto_region 1 with fail
        generalize w.alloc (.cells (dnC k m z p A ks.length c).toArray 34) = wb at *
        have y0 := HB0.out.kind
        go_wp2
        go_ret
        exact ⟨rfl, hx0.out⟩

theorem rng_take {X : List Int} {i : Nat} (hi : i < X.length) (h : X.take i = rng 0 i) : X.take (i + 1) = rng 0 (i + 1) ↔ X[i]'hi = (i : Int) + 1 := by
  rw [List.take_succ_eq_append_getElem hi, h, rng_add, rng_one]
  constructor
  · intro e
    have e2 := List.append_cancel_left e
    injection e2 with e2
    rw [e2]; omega
  · intro e
    rw [e]
    congr 2
    omega
theorem rng_pre {X : List Int} {i : Nat} (hi : i < X.length) (h : X = rng 0 X.length) : X.take (i + 1) = rng 0 (i + 1) := by
  obtain ⟨n, hn⟩ : ∃ n, X.length = i + 1 + n := ⟨X.length - (i + 1), by omega⟩
  rw [hn, rng_add] at h
  rw [h]
  exact List.take_left' (rng_len 0 (i + 1))

set_option maxHeartbeats 8000000 in
set_option maxRecDepth 20000 in
theorem refRightD (t : T) (hsz : t.size ≤ 1000000) (S : Nat → Prop) (w : World) (v : List Value) (h : DNodeV S w t v) :
    Calls Tryd.prog 12 #[.agg v.toArray] w fun e w' => e = .returned (.bool (t.right 1 0).1) ∧ Ext w w' := by
  obtain ⟨k, m, z, p, A, n, c, rfl⟩ := dnodeV_form h
  have hx0 := Lib.hid (Ext.new1 w (.cells (dnC k m z p A n c).toArray 34))
  have HV := Lib.hid (h.keep hx0.out)
  have HB0 := Lib.hid (DB.new w k m z p A n c)
  have HSZ := Lib.hid hsz
  have hgl := groups_le t
  obtain ⟨rv, hrv⟩ : ∃ rv, (t.right 1 0).1 = rv := ⟨_, rfl⟩
  have hre := right_doc t
  rw [hrv] at hre ⊢
  have HRE := Lib.hid hre
  have HXL := Lib.hid (show (numsT t).length = t.groups ∧ (numsT t).length ≤ 1000000 by have := nums_len t; omega)
  clear h hsz hgl hrv hre
  cases hf : fineF t 1
  · have HF := Lib.hid hf
    have E := Lib.hid (show rv = false by rw [HRE.out, hf]; rfl)
    clear hf
    go_enter Tryd.func12, Tryd.ntmps12
    go_wp2_with (first
      | (refine load_dn rfl (.tmp 1) rfl (g := w.heap.size) rfl HB0.out ?_)
      | (go_at_call 37; refine (refFine t.size t (Nat.le_refl _) S _ (dnC k m z p A n c) 1 HV.out (by omega)).mono ?_; rintro e w1 ⟨rfl, hx1⟩; rw [HF.out]))
    go_ret
    exact ⟨by rw [E.out]; rfl, Ext.trans hx0.out hx1⟩
  · have HF := Lib.hid hf
    have HRE2 := Lib.hid (show rv = decide (numsT t = rng 0 (numsT t).length) by rw [HRE.out, hf]; rfl)
    clear hf HRE
    go_enter Tryd.func12, Tryd.ntmps12
    go_wp2_with (first
      | (have := hx1; refine load_dn rfl (.tmp 1) rfl (g := w.heap.size) rfl (HB0.out.keep hx1) ?_)
      | (refine load_dn rfl (.tmp 1) rfl (g := w.heap.size) rfl HB0.out ?_)
      | (have := hx1; go_at_call 38; refine (refNumbers _ t (Nat.le_refl _) HSZ.out S _ (dnC k m z p A n c) (HV.out.keep hx1)).mono ?_; rintro e w2 ⟨v9, rfl, ho9, hx2⟩; obtain ⟨A9, c9, rfl, _, _, hrd9⟩ := own_rd ho9)
      | (go_at_call 37; refine (refFine t.size t (Nat.le_refl _) S _ (dnC k m z p A n c) 1 HV.out (by omega)).mono ?_; rintro e w1 ⟨rfl, hx1⟩; rw [HF.out]))
    have HX2 := Lib.hid (Ext.trans hx0.out (Ext.trans hx1 hx2))
    have hgn := HXL.out.1
    rw [← hgn] at hrd9
    have HRD := Lib.hid hrd9
    obtain ⟨X, hX⟩ : ∃ X, numsT t = X := ⟨_, rfl⟩
    have HX := Lib.hid hX
    have HGX := Lib.hid (show t.groups = X.length by rw [← hX, hgn])
    have HXB := Lib.hid (show X.length ≤ 1000000 by rw [← hX]; exact HXL.out.2)
    rw [hX] at HRE2 HRD
    rw [HGX.out]
    clear ho9 hrd9 hx1 hx2 hgn hX
    go_loopg [11] (X.length) (fun gg iv wr => ∃ i : Nat, i ≤ X.length ∧ gg = X.length - i ∧ iv = .int .i64 (i : Nat) ∧ X.take i = rng 0 i ∧ wr = w2)
    case atStart => exact ⟨0, by omega, rfl, rfl, rfl, rfl⟩
    case round =>
      obtain ⟨i, hi, rfl, rfl, hno, rfl⟩ := hrel
      by_cases hlt : i < X.length
      · obtain ⟨b, o, rfl, hb, hcell⟩ := HRD.out.2 (by simp [intsV]; omega)
        have hc := hcell i (.int .i64 (X[i]'hlt)) (by simp [intsV, hlt])
        have hlt' : (i : Int) < (X.length : Int) := by omega
        have hw2 : IntKind.i64.wrap ((i : Int) + 1) = (i : Int) + 1 := wrap_id (by have := HXB.out; omega) (by have := HXB.out; omega)
        have hiff := rng_take hlt hno
        have HPRE := Lib.hid (fun h => rng_pre (X := X) hlt h)
        obtain ⟨x, hx⟩ : ∃ x, X[i]'hlt = x := ⟨_, rfl⟩
        rw [hx] at hc hiff
        have HIFF := Lib.hid hiff
        clear hx hiff hno hcell
        by_cases hxi : x = (i : Int) + 1
        · have hxb : (x != (i : Int) + 1) = false := by simp [hxi]
          have HT := Lib.hid (HIFF.out.2 hxi)
          clear hxi
          go_wp2
          go_roundg (X.length - (i + 1))
          case measure => omega
          case rel => exact ⟨i + 1, by omega, rfl, by go_num, HT.out, rfl⟩
        · have hxb : (x != (i : Int) + 1) = true := by simp [hxi]
          have E := Lib.hid (show rv = false by
            rw [HRE2.out]
            exact decide_eq_false fun h => hxi (HIFF.out.1 (HPRE.out h)))
          clear hxi
          go_wp2
          go_ret
          exact ⟨by rw [E.out]; rfl, HX2.out⟩
      · obtain rfl : i = X.length := by omega
        have hlt' : ¬ (X.length : Int) < (X.length : Int) := by omega
        rw [List.take_length] at hno
        have E := Lib.hid (show rv = true by rw [HRE2.out]; exact decide_eq_true hno)
        clear hno
        go_wp2
        go_ret
        exact ⟨by rw [E.out]; rfl, HX2.out⟩
end Go.Proofs.YtnkhiohopcadmaaDoor
