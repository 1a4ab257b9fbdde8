/- The ring's writing calls. -/
import Derived.Test.YtnbdmlpnoiljdaaDoorRing1
import Derived.BigRegion
namespace Go.Proofs.YtnbdmlpnoiljdaaDoor
open Go Go.RowKit

theorem RingAt.drew {w : World} {p g R went f : Nat} {q s : List UInt8} (h : RingAt w p g R q went f s) : RingAt w.drew p g R q went f s := h.keep ((Below.refl _ _).drew)
theorem RingAt.fp {w : World} {p g R went f : Nat} {q s : List UInt8} (h : RingAt w p g R q went f s) (i : Nat) : w.frozen? ⟨p, i, none⟩ = false := h.pt.frozen i
theorem Rd.drew {w : World} {size n : Nat} {A : Option Addr} {cs : List Value} (h : Rd w size A n cs) : Rd w.drew size A n cs := h.keep ((Below.refl _ _).drew)
theorem Blk.drew {w : World} {g : Nat} {e : TypeId} {cs : List Value} (h : Blk w g e cs) : Blk w.drew g e cs := h.keep ((Below.refl _ _).drew)

theorem Ext.drewN (w : World) (n : Nat) : Ext w (w.drewN n) := ⟨rfl, rfl, rfl, Nat.le_refl _, fun _ _ => rfl⟩
theorem ringLenQ {p g R went f : Nat} {q s : List UInt8} (w : World) (h : RingAt w p g R q went f s) :
    Calls Tryd.prog 80 #[.pointer (some ⟨p, 0, none⟩)] w fun e w' => e = .returned (.int .i64 q.length) ∧ ∃ m, w' = w.drewN m :=
  (ringLen w h).mono fun _ _ ⟨he, hw⟩ => ⟨he, 1, hw⟩

theorem bytesV_splice (s b : List UInt8) (o : Nat) : splice (bytesV s) o (bytesV b) = bytesV (splice s o b) := by
  simp [splice, bytesV, List.map_take, List.map_drop]
theorem bytesV_take (l : List UInt8) (n : Nat) : (bytesV l).take n = bytesV (l.take n) := by simp [bytesV, List.map_take]
theorem bytesV_drop (l : List UInt8) (n : Nat) : (bytesV l).drop n = bytesV (l.drop n) := by simp [bytesV, List.map_drop]
theorem Rd.takeB {w : World} {A : Option Addr} {n m : Nat} {l : List UInt8} (h : Rd w 1 A n (bytesV l)) (hm : m ≤ n) : Rd w 1 A m (bytesV (l.take m)) := by
  have hl : l.length = n := by simpa [bytesV] using h.1
  refine ⟨by simp [bytesV]; omega, fun hp => ?_⟩
  have h0 : 0 < m := by simp [bytesV] at hp; omega
  obtain ⟨b, o, e, hb, hc⟩ := h.2 (by simp [bytesV]; omega)
  refine ⟨b, o, e, hb, fun j u hu => hc j u ?_⟩
  simp only [bytesV, List.map_take, List.getElem?_take] at hu ⊢
  split at hu
  · exact hu
  · cases hu
theorem Rd.dropB {w : World} {A A' : Option Addr} {n m k r : Nat} {l : List UInt8} (h : Rd w 1 A n (bytesV l)) (hm : m ≤ n) (hk : k ≤ m) (hr : r = m - k) (hA : k < m → ∀ b o, A = some ⟨b, o, none⟩ → A' = some ⟨b, o + k, none⟩) : Rd w 1 A' r (bytesV ((l.take m).drop k)) := by
  subst hr
  have hl : l.length = n := by simpa [bytesV] using h.1
  refine ⟨by simp [bytesV]; omega, fun hp => ?_⟩
  have h0 : k < m := by simp [bytesV] at hp; omega
  obtain ⟨b, o, e, hb, hc⟩ := h.2 (by simp [bytesV]; omega)
  refine ⟨b, o + k, hA h0 b o e, hb, fun j u hu => ?_⟩
  rw [Nat.add_assoc]
  refine hc (k + j) u ?_
  simp only [bytesV, List.map_drop, List.map_take, List.getElem?_drop, List.getElem?_take] at hu ⊢
  split at hu
  · exact hu
  · cases hu

set_option maxHeartbeats 1000000 in
theorem ringDrop {p g R went f : Nat} {q s : List UInt8} (w : World) (k : Int) (m : Nat) (hq : RingAt w p g R q went f s) (hm : m = min k.toNat q.length) :
    Calls Tryd.prog 82 #[.pointer (some ⟨p, 0, none⟩), .int .i64 k] w fun e w' => e = .returned (.int .i64 m) ∧ RingAt w' p g R (q.drop m) (went + m) ((f + m) % R) s ∧ Chg [p] w w' := by
  have hfit := hq.circ.fits
  have hlt := hq.lt
  have hmo := hq.most
  have hsm := hq.small
  go_enter Tryd.func82, Tryd.ntmps82
  obtain ⟨mm, hmin, hmax⟩ : ∃ mm : Int, (if (q.length : Int) < k then (q.length : Int) else k) = mm ∧ (if mm < 0 then 0 else mm) = (m : Int) := by
    refine ⟨min k q.length, ?_, ?_⟩
    · split <;> omega
    · split <;> omega
  have hml : m ≤ q.length := by omega
  have HM := Lib.hid hm
  clear hm
  go_wp2_with (go_at_call 80; refine (ringLen (p := p) (g := g) (R := R) (q := q) (went := went) (f := f) (s := s) _ ?_).mono ?_; exact hq; rintro e w' ⟨rfl, rfl⟩)
  have h2 := hq.drew
  have hc2 : Chg [p] w w.drew := (Chg.refl _ _).drew
  generalize w.drew = w2 at h2 hc2 ⊢
  have e1 := h2.c1
  have e0 := h2.c0
  have e3 := h2.c3
  have f1 := h2.fp 1
  have f3 := h2.fp 3
  have hR : ((R : Int) = 0) = False := by simp; omega
  clear hmin hmax
  go_region
  go_wp2
  go_ret
  refine ⟨by simp, ⟨?_, ((h2.sl.far h2.ne.symm _).far h2.ne.symm _).drew, h2.ne, h2.circ.drop, Nat.mod_lt _ (by omega), h2.most, by simp; omega⟩, (((hc2.setCell (by simp) _).setCell (by simp) _).drew)⟩
  have hp := ((h2.pt.set_ 1 (.int .i64 (((f : Int) + m) % R))).set_ 3 (.int .i64 ((went : Int) + m))).drew
  have e : (((ringV g R f (went + q.length) went).set 1 (.int .i64 (((f : Int) + m) % R))).set 3 (.int .i64 ((went : Int) + m))) = ringV g R ((f + m) % R) (went + m + (q.drop m).length) (went + m) := by
    simp [ringV]; omega
  rw [e] at hp
  exact hp

set_option maxHeartbeats 1000000 in
theorem ringPut {p g R went f n c : Nat} {q s l : List UInt8} {A : Option Addr} (w : World) (m : Nat) (hq : RingAt w p g R q went f s) (hr : Rd w 1 A n (bytesV l)) (hc : n ≤ c) (hA : 0 < (bytesV l).length → ∀ b o v, A = some ⟨b, o, v⟩ → b ≠ g)
    (hn : n ≤ 1000000) (hsm : went + q.length + n ≤ 1000000) (hm : m = min n (R - q.length)) :
    Calls Tryd.prog 61 #[.pointer (some ⟨p, 0, none⟩), .slice A n c] w fun e w' => e = .returned (.int .i64 m) ∧ (∃ s', RingAt w' p g R (q ++ l.take m) went f s') ∧ Chg [p, g] w w' := by
  have hl : l.length = n := by simpa [bytesV] using hr.1
  have hfit := hq.circ.fits
  have hsl := hq.circ.len
  have hlt := hq.lt
  have hmo := hq.most
  have hs := hq.small
  obtain ⟨hmin⟩ : Nonempty ((if (R : Int) - q.length < n then (R : Int) - q.length else n) = (m : Int)) := ⟨by split <;> omega⟩
  have hmn : m ≤ n := by omega
  have hmr : q.length + m ≤ R := by omega
  have HM := Lib.hid hm
  clear hm
  go_enter Tryd.func61, Tryd.ntmps61
  go_wp2_with (go_at_call 60; refine (ringRoom (p := p) (g := g) (R := R) (q := q) (went := went) (f := f) (s := s) _ ?_).mono ?_; exact hq; rintro e w' ⟨rfl, rfl⟩)
  have h2 := hq.drew.drew
  have hr2 := hr.drew.drew
  have hc2 : Chg [p, g] w w.drew.drew := (Chg.refl _ _).drew.drew
  generalize w.drew.drew = w2 at h2 hc2 hr2 ⊢
  clear hmin
  have e1 := h2.c1
  have e0 := h2.c0
  have hR : ((R : Int) = 0) = False := by simp; omega
  go_quiet (first
    | (go_at_call 80; refine Calls.quiet_of (ringLenQ (p := p) (g := g) (R := R) (q := q) (went := went) (f := f) (s := s) _ ?_); exact h2.keep (Ext.drewN _ _)))
  have h3 := h2.keep (Ext.drewN w2 nq)
  have hr3 := hr2.keep (Ext.drewN w2 nq)
  have hc3 : Chg [p, g] w (w2.drewN nq) := hc2.trans (.of_ext (Ext.drewN _ _))
  generalize w2.drewN nq = w3 at h3 hr3 hc3 ⊢
  obtain ⟨at', hat, hatl⟩ : ∃ at' : Nat, at' = (f + q.length) % R ∧ at' < R := ⟨_, rfl, Nat.mod_lt _ (by omega)⟩
  have hat2 : ((f : Int) + q.length) % R = (at' : Int) := by rw [hat]; simp
  have HAT := Lib.hid hat
  clear hat
  go_wp2
  clear e0 e1 h2 hr2
  have e0 := h3.c0
  have hcut : (at' : Int) ≤ R := by omega
  have hcut2 : (at' : Int) < R := by omega
  have hcut3 : (m : Int) ≤ c := by omega
  go_region_law (refine step_cpC (g := g) (off := at') (cur := bytesV s) (cs := bytesV (l.take m)) Tryd.elemB rfl (.tmp 31) (.tmp 34) rfl rfl h3.drew.sl (fun _ => if_neg (by omega)) (by simp [bytesV]; omega) rfl (hr3.drew.takeB hmn) (one_bytesV _) ?_; intro w4 hB4 hc4; have HB4 := Lib.hid hB4; clear hB4)
  have h4 := h3.drew
  have hr4 := (hr3.drew).chg hc4 (fun hp b o v e hm => hA hp b o v e (by simpa using hm))
  have hc5 : Chg [p, g] w w4 := hc3.drew.trans (hc4.mono (by simp))
  have hp4 : Blk w4 p 129 (ringV g R f (went + q.length) went) := h4.pt.chg hc4 (by simpa using h4.ne)
  have hcirc := h4.circ
  have hne := h4.ne
  clear h4 h3 hr3 hc3 hc4 e0
  have g0 : w4.cell? ⟨p, 0, none⟩ = some (.slice (some ⟨g, 0, none⟩) R R) := hp4.cell 0
  go_wp2
  obtain ⟨k, hk, hkm⟩ : ∃ k, k = min m (R - at') ∧ k ≤ m := ⟨_, rfl, Nat.min_le_left _ _⟩
  rw [← hk]
  have HK := Lib.hid hk
  clear hk
  have hcut4 : (k : Int) ≤ m := by omega
  go_region_law (refine step_cpC (g := g) (off := 0) (cur := splice (bytesV s) at' (List.take (R - at') (bytesV (List.take m l)))) (cs := bytesV ((l.take m).drop k)) Tryd.elemB rfl (.tmp 39) (.tmp 43) rfl rfl (HB4.out.drew) (fun _ => rfl) (by rw [length_splice _ _ _ (by simp [bytesV]; omega)]; simp [bytesV]; omega) rfl (hr4.drew.dropB hmn hkm rfl (fun hlt b o e => by rw [e, if_neg (by omega)]; simp [Addr.add])) (one_bytesV _) ?_; intro w5 hB5 hc6; have HB5 := Lib.hid hB5; clear hB5)
  have hc6' := Chg.mono (Y := [p, g]) hc6 (by simp)
  have hp5 : Blk w5 p 129 (ringV g R f (went + q.length) went) := hp4.drew.chg hc6 (by simpa using hne)
  have hc7 : Chg [p, g] w w5 := hc5.drew.trans hc6'
  clear hc6 hc6' hc5 hp4 g0 hr4 hcut hcut2 hcut3 hcut4 hr
  have f2 := hp5.frozen 2
  have g2 : w5.cell? ⟨p, 2, none⟩ = some (.int .i64 (went + q.length : Nat)) := hp5.cell 2
  have hcs : (bytesV s).length = R := by simp [bytesV]; exact hsl
  have HF : ∃ s', RingAt (w5.setCell ⟨p, 2, none⟩ (.int .i64 ((went : Int) + q.length + m))) p g R (q ++ l.take m) went f s' := by
    refine ⟨splice (splice s at' ((l.take m).take k)) 0 ((l.take m).drop k), ?_, ?_, hne, ?_, hlt, hmo, by simp; omega⟩
    · have hp := hp5.set_ 2 (.int .i64 ((went : Int) + q.length + m))
      have e : ((ringV g R f (went + q.length) went).set 2 (.int .i64 ((went : Int) + q.length + m))) = ringV g R f (went + (q ++ l.take m).length) went := by
        simp [ringV]; omega
      rw [e] at hp
      exact hp
    · have hb := HB5.out
      have e : splice (splice (bytesV s) at' (List.take (R - at') (bytesV (List.take m l)))) 0 (List.take R (bytesV ((l.take m).drop k))) = bytesV (splice (splice s at' ((l.take m).take k)) 0 ((l.take m).drop k)) := by
        rw [bytesV_take, bytesV_take, bytesV_splice, bytesV_splice, List.take_of_length_le (l := (l.take m).drop k) (by simp; omega)]
        congr 3
        rw [List.take_eq_take_iff, HK.out]
        simp; omega
      rw [e] at hb
      exact hb.far hne.symm _
    · exact hcirc.put hlt (by simp; omega) HAT.out (by rw [HK.out]; simp; omega)
  have hcf : Chg [p, g] w (w5.setCell ⟨p, 2, none⟩ (.int .i64 ((went : Int) + q.length + m))) := hc7.setCell (by simp) _
  have HF' := Lib.hid HF
  clear HF hcs hp5 hsl hl
  go_wp2
  all_goals go_ret
  all_goals exact ⟨by simp, HF'.out, hcf⟩
end Go.Proofs.YtnbdmlpnoiljdaaDoor
