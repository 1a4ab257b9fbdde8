/- Put together: Dn8e. -/
import Derived.Test.YtnkhiohopcadmaaDoorTgV
namespace Go.Proofs.YtnkhiohopcadmaaDoor
open Go Go.RowKit

set_option maxHeartbeats 16000000 in
set_option maxRecDepth 20000 in
theorem refFinee (n : Nat) (ih : FineOK n) (k m : Int) (z : Bool) (p : Nat → Bool) (ks : List T) (ht : sizeL ks ≤ n) (hk : k = 7 ∨ k = 8) (S : Nat → Prop) (w : World) (v : List Value) (d : Nat) (h : DNodeV S w (.node k m z p ks) v) (hd : d ≤ 40) :
    Calls Tryd.prog 37 #[.agg v.toArray, .int .i64 (d : Nat)] w fun e w' => e = .returned (.bool (fineF (.node k m z p ks) d)) ∧ Ext w w' := by
  obtain ⟨A, c, cs, rfl, h1, h2, h3, h5⟩ := h.kids
  have hlk := sizeL_len ks
  have hx0 := Lib.hid (Ext.new1 w (.cells (dnC k m z p A ks.length c).toArray 34))
  have HR := Lib.hid (h3.keep hx0.out)
  have HK := Lib.hid (dkidsV_map (fun t v h => DNodeV.keep h hx0.out) h5)
  have HB0 := Lib.hid (DB.new w k m z p A ks.length c)
  unfold maxLen at h2
  have hkl : ks.length ≤ 9223372036854775807 := by omega
  have HKS := Lib.hid (show ∀ x ∈ ks, x.size ≤ n from fun x hx => by have := sizeL_mem hx; omega)
  obtain ⟨rv, hrv⟩ : ∃ rv, fineF (.node k m z p ks) d = rv := ⟨_, rfl⟩
  have hfe : rv = (kidsOk k ks.length && bareB k m z p && fineL ks (d + 1) && (!(decide (k = 5 ∨ k = 6)) || !headN ks)) := by
    rw [← hrv, fineF, decide_eq_false (by omega : ¬ 40 < d)]
    simp
  have HFE := Lib.hid hfe
  rw [hrv]
  have heq := fun w => eq_set p (fun _ => false) w
  have HSP := Lib.hid (sameP_zero p)
  have hd' : ¬ (40 : Int) < (d : Int) := by omega
  have HD := Lib.hid hd
  obtain ⟨L, hL⟩ : ∃ L, ks.length = L := ⟨_, rfl⟩
  have HL := Lib.hid hL
  have HLB := Lib.hid (show L ≤ 9223372036854775807 by omega)
  rw [hL] at HB0 HFE hx0 HR HK ⊢
  have hw1 : IntKind.i64.wrap ((d : Int) + 1) = (d : Int) + 1 := wrap_id (by omega) (by omega)
  clear h1 h2 h3 h5 h hrv hfe hlk ht hd hkl hL
  have e3 : (k == 3) = false := by simp; omega
  have e4 : (k == 4) = false := by simp; omega
  have e5 : (4 : Int) < k := by omega
  have e1 : ¬ k < 1 := by omega
  have e8 : ¬ (8 : Int) < k := by omega
  go_enter Tryd.func37, Tryd.ntmps37
  go_upto_region 1 with fail
  generalize w.alloc (.cells (dnC k m z p A L c).toArray 34) = wb at *
  generalize w.heap.size = g0 at *
  have y0 := HB0.out.kind
  have y1 := HB0.out.num
  have y2 := HB0.out.lazy
  have y7 := HB0.out.kids
  go_upto_region 8 with fail
  obtain ⟨bd, hbd⟩ : ∃ bd, (!(kidsOk k L && bareB k m z p)) = bd := ⟨_, rfl⟩
  have HBD := Lib.hid hbd
  clear hbd
  go_cut [81] (fun v wx => v = .bool bd ∧ Ext wb wx)
  case first =>
    clear e1 e8 e3 e4 e5
    rcases hk with rfl | rfl
    focus
      by_cases hl : L = 1
      rotate_left
      by_cases hl0 : L = 0
      focus
        subst hl0
        have E := Lib.hid (show bd = true from HBD.out.symm.trans (show (!(kidsOk 7 0 && bareB 7 m z p)) = true from by unfold kidsOk; simp))
        go_wp2
        go_meet
        exact ⟨by rw [E.out], Ext.refl _⟩
      focus
        have hl' : ¬ (L : Int) < 1 := by omega
        have hl2 : (1 : Int) < (L : Int) := by omega
        have E := Lib.hid (show bd = true from HBD.out.symm.trans (show (!(kidsOk 7 L && bareB 7 m z p)) = true from by unfold kidsOk; simp [hl]))
        go_wp2
        go_meet
        exact ⟨by rw [E.out], Ext.refl _⟩
      subst hl
      have HKO := Lib.hid (show kidsOk 7 1 = true by unfold kidsOk; simp)
      by_cases hm : m = 0
      rotate_left
      focus
        have hm' : (m != 0) = true := by simp [hm]
        have E := Lib.hid (show bd = true from HBD.out.symm.trans (show (!(kidsOk 7 1 && bareB 7 m z p)) = true from by unfold bareB; simp [hm]))
        go_wp2
        go_meet
        exact ⟨by rw [E.out], Ext.refl _⟩
      subst hm
      cases z
      focus
        cases es : noneB p
        focus
          have E := Lib.hid (show bd = true from HBD.out.symm.trans (show (!(kidsOk 7 1 && bareB 7 0 false p)) = true from by rw [HKO.out]; unfold bareB; rw [es]; simp))
          have heq2 := heq
          rw [HSP.out, es, ← zero28] at heq2
          clear heq
          go_wp2
          refine wp_dset (.tmp 76) rfl (g := g0) rfl HB0.out ?_
          go_wp2
          go_meet
          exact ⟨by rw [E.out], Ext.refl _⟩
        focus
          have E := Lib.hid (show bd = false from HBD.out.symm.trans (show (!(kidsOk 7 1 && bareB 7 0 false p)) = false from by rw [HKO.out]; unfold bareB; rw [es]; simp))
          have heq2 := heq
          rw [HSP.out, es, ← zero28] at heq2
          clear heq
          go_wp2
          refine wp_dset (.tmp 76) rfl (g := g0) rfl HB0.out ?_
          go_wp2
          go_meet
          exact ⟨by rw [E.out], Ext.refl _⟩
      focus
        cases es : noneB p
        focus
          have E := Lib.hid (show bd = true from HBD.out.symm.trans (show (!(kidsOk 7 1 && bareB 7 0 true p)) = true from by rw [HKO.out]; unfold bareB; rw [es]; simp))
          have heq2 := heq
          rw [HSP.out, es, ← zero28] at heq2
          clear heq
          go_wp2
          refine wp_dset (.tmp 76) rfl (g := g0) rfl HB0.out ?_
          go_wp2
          go_meet
          exact ⟨by rw [E.out], Ext.refl _⟩
        focus
          have E := Lib.hid (show bd = false from HBD.out.symm.trans (show (!(kidsOk 7 1 && bareB 7 0 true p)) = false from by rw [HKO.out]; unfold bareB; rw [es]; simp))
          have heq2 := heq
          rw [HSP.out, es, ← zero28] at heq2
          clear heq
          go_wp2
          refine wp_dset (.tmp 76) rfl (g := g0) rfl HB0.out ?_
          go_wp2
          go_meet
          exact ⟨by rw [E.out], Ext.refl _⟩
    focus
      by_cases hl : L = 1
      rotate_left
      by_cases hl0 : L = 0
      focus
        subst hl0
        have E := Lib.hid (show bd = true from HBD.out.symm.trans (show (!(kidsOk 8 0 && bareB 8 m z p)) = true from by unfold kidsOk; simp))
        go_wp2
        go_meet
        exact ⟨by rw [E.out], Ext.refl _⟩
      focus
        have hl' : ¬ (L : Int) < 1 := by omega
        have hl2 : (1 : Int) < (L : Int) := by omega
        have E := Lib.hid (show bd = true from HBD.out.symm.trans (show (!(kidsOk 8 L && bareB 8 m z p)) = true from by unfold kidsOk; simp [hl]))
        go_wp2
        go_meet
        exact ⟨by rw [E.out], Ext.refl _⟩
      subst hl
      have HKO := Lib.hid (show kidsOk 8 1 = true by unfold kidsOk; simp)
      cases z
      rotate_left
      focus
        have E := Lib.hid (show bd = true from HBD.out.symm.trans (show (!(kidsOk 8 1 && bareB 8 m true p)) = true from by unfold bareB; simp))
        go_wp2
        go_meet
        exact ⟨by rw [E.out], Ext.refl _⟩
      cases es : noneB p
      focus
        have E := Lib.hid (show bd = true from HBD.out.symm.trans (show (!(kidsOk 8 1 && bareB 8 m false p)) = true from by rw [HKO.out]; unfold bareB; rw [es]; simp))
        have heq2 := heq
        rw [HSP.out, es, ← zero28] at heq2
        clear heq
        go_wp2
        refine wp_dset (.tmp 76) rfl (g := g0) rfl HB0.out ?_
        go_wp2
        go_meet
        exact ⟨by rw [E.out], Ext.refl _⟩
      focus
        have E := Lib.hid (show bd = false from HBD.out.symm.trans (show (!(kidsOk 8 1 && bareB 8 m false p)) = false from by rw [HKO.out]; unfold bareB; rw [es]; simp))
        have heq2 := heq
        rw [HSP.out, es, ← zero28] at heq2
        clear heq
        go_wp2
        refine wp_dset (.tmp 76) rfl (g := g0) rfl HB0.out ?_
        go_wp2
        go_meet
        exact ⟨by rw [E.out], Ext.refl _⟩
  case rest =>
    obtain ⟨rfl, hxc⟩ := hcut
    have hL := HL.out
    subst hL
    have hkl := HLB.out
    have HR := Lib.hid (HR.out.keep hxc)
    have HK := Lib.hid (dkidsV_map (fun t v h => DNodeV.keep h hxc) HK.out)
    have HB0 := Lib.hid (HB0.out.keep hxc)
    have hx0 := Lib.hid (Ext.trans hx0.out hxc)
    have hfe := HFE.out
    obtain ⟨bb, hbb⟩ : ∃ bb, (kidsOk k ks.length && bareB k m z p) = bb := ⟨_, rfl⟩
    have hbd := HBD.out
    rw [hbb] at hfe hbd
    subst hbd
    clear hbb
    cases bb
    · have E := Lib.hid (show rv = false by rw [hfe]; rfl)
      clear hfe
      go_wp2
      go_ret
      exact ⟨by rw [E.out]; rfl, hx0.out⟩
    have hfe2 : rv = (fineL ks (d + 1) && (!(decide (k = 5 ∨ k = 6)) || !headN ks)) := by rw [hfe]; simp
    have HF2 := Lib.hid hfe2
    clear hfe hfe2 HFE
    have y7 := HB0.out.kids
    go_wp2
    clear y7
    go_loopg [85] (ks.length) (fun g iv wr => ∃ i : Nat, i ≤ ks.length ∧ g = ks.length - i ∧ fineL (ks.take i) (d + 1) = true ∧ iv = .int .i64 (i : Nat) ∧ Ext wc wr)
    case atStart => exact ⟨0, by omega, rfl, by rw [List.take_zero, fineL], rfl, Ext.refl _⟩
    case round =>
      obtain ⟨i, hi, rfl, hno, rfl, hx⟩ := hrel
      have HNO := Lib.hid hno
      clear hno
      by_cases hlt : i < ks.length
      · obtain ⟨b, o, k', m', z', p', B, n', c', rfl, hv, hk'⟩ := dkid_at HR.out HK.out hlt
        have hrg := Lib.hid (hk'.out wr hx)
        have hw2 : IntKind.i64.wrap ((i : Int) + 1) = (i : Int) + 1 := wrap_id (by omega) (by omega)
        have hlt' : (i : Int) < (ks.length : Int) := by omega
        obtain ⟨x, hxe⟩ : ∃ x, ks[i]'hlt = x := ⟨_, rfl⟩
        have HT := Lib.hid (HKS.out x (hxe ▸ List.getElem_mem hlt))
        have HV := Lib.hid (show DNodeV S _ x _ from hxe ▸ (hv.keep hx).keep (Ext.new1 wr (.cells (dnC k' m' z' p' B n' c').toArray 34)))
        have HX := Lib.hid (Ext.trans hx (Ext.new1 wr (.cells (dnC k' m' z' p' B n' c').toArray 34)))
        have HTT := Lib.hid (show fineL (ks.take (i + 1)) (d + 1) = fineF x (d + 1) by rw [List.take_succ_eq_append_getElem hlt, fineL_append, HNO.out, hxe, fineL, fineL]; simp)
        have HA := Lib.hid (show fineL ks (d + 1) = true → fineF x (d + 1) = true from fun h => fineL_mem h (hxe ▸ List.getElem_mem hlt))
        clear hv hk' hxe hx
        cases hP : fineF x (d + 1)
        · have HP := Lib.hid hP
          have E := Lib.hid (show rv = false by
            rw [HF2.out]
            cases h : fineL ks (d + 1)
            · rfl
            · have := HA.out h; rw [hP] at this; cases this)
          clear hP
          go_wp2_with (first
            | (refine load_el rfl (.tmp 87) rfl (b := b) (q := o + i * 260) rfl hrg.out ?_)
            | (refine store_dn_new rfl (.tmp 8) (.tmp 88) rfl rfl rfl zsize40 ?_)
            | (refine load_dn rfl (.tmp 8) rfl (g := wr.heap.size) rfl (DB.new wr _ _ _ _ _ _ _) ?_)
            | (go_at_call 37; refine (ih x HT.out S _ (dnC k' m' z' p' B n' c') (d + 1) HV.out (by have := HD.out; omega)).mono ?_; rintro e w1 ⟨rfl, hx1⟩; rw [HP.out]))
          go_ret
          exact ⟨by rw [E.out]; rfl, Ext.trans hx0.out (Ext.trans HX.out hx1)⟩
        · have HP := Lib.hid hP
          clear hP
          go_wp2_with (first
            | (refine load_el rfl (.tmp 87) rfl (b := b) (q := o + i * 260) rfl hrg.out ?_)
            | (refine store_dn_new rfl (.tmp 8) (.tmp 88) rfl rfl rfl zsize40 ?_)
            | (refine load_dn rfl (.tmp 8) rfl (g := wr.heap.size) rfl (DB.new wr _ _ _ _ _ _ _) ?_)
            | (go_at_call 37; refine (ih x HT.out S _ (dnC k' m' z' p' B n' c') (d + 1) HV.out (by have := HD.out; omega)).mono ?_; rintro e w1 ⟨rfl, hx1⟩; rw [HP.out]))
          go_roundg (ks.length - (i + 1))
          case measure => omega
          case rel => exact ⟨i + 1, by omega, rfl, by rw [HTT.out, HP.out], by go_num, Ext.trans HX.out hx1⟩
      · obtain rfl : i = ks.length := by omega
        have hlt' : ¬ (ks.length : Int) < (ks.length : Int) := by omega
        have hno := HNO.out
        rw [List.take_length] at hno
        have hfe := HF2.out
        rw [hno, Bool.true_and] at hfe
        have hb := HB0.out.keep hx
        have y0 := hb.kind
        have y7 := hb.kids
        have HXr := Lib.hid hx
        clear hno hb hx
        have k56 : ¬ (k = 5 ∨ k = 6) := by omega
        rw [decide_eq_false k56] at hfe
        have E := Lib.hid (show rv = true by rw [hfe]; rfl)
        have e5 : (k != 5) = true := by simp; exact fun e => k56 (.inl e)
        have e6 : (k != 6) = true := by simp; exact fun e => k56 (.inr e)
        clear hfe k56
        go_wp2
        go_ret
        exact ⟨by rw [E.out]; rfl, Ext.trans hx0.out HXr.out⟩
end Go.Proofs.YtnkhiohopcadmaaDoor
