/- One place; what is in one of both; the list of what is in. -/
import Derived.Test.YtmfdnjddggaeaaaDoorMn1
import Derived.Test.YtmfdnjddggaeaaaDoorMn3
namespace Go.Proofs.YtmfdnjddggaeaaaDoor
open Go Go.RowKit

/-- A slice that holds these numbers. -/
def IlV (w : World) (v : Value) (l : List Int) : Prop := ∃ A c, v = .slice A l.length c ∧ l.length ≤ c ∧ c ≤ maxLen ∧ Rd w 1 A l.length (intsV l)
theorem IlV.keep {w w' : World} {v : Value} {l : List Int} (h : IlV w v l) (hx : Ext w w') : IlV w' v l := by
  obtain ⟨A, c, h1, h2, h3, h4⟩ := h
  exact ⟨A, c, h1, h2, h3, h4.keep hx⟩
theorem IlV.nil (w : World) : IlV w (.slice none 0 0) [] := ⟨none, 0, rfl, Nat.le_refl _, by unfold maxLen; omega, Rd.nil⟩
theorem own_il {w : World} {base : Nat} {v : Value} {l : List Int} (h : w.ownsRow base 3 1 v l.length (intsV l)) : IlV w v l := by
  obtain ⟨A, c, rfl, h1, h2, h3⟩ := own_rd h
  exact ⟨A, c, rfl, h1, h2, h3⟩
def natsI (l : List Nat) : List Int := l.map (fun j : Nat => (j : Int))
theorem placesL_len (p : List Bool) : (placesL p).length ≤ p.length := by
  unfold placesL
  have := List.length_filter_le (fun j => p[j]? == some true) (List.range p.length)
  simpa using this
def placesN (p : List Bool) (n : Nat) : List Nat := (List.range n).filter fun j => p[j]? == some true
theorem placesN_succ (p : List Bool) (n : Nat) : placesN p (n + 1) = placesN p n ++ if p[n]? = some true then [n] else [] := by
  unfold placesN
  rw [List.range_succ, List.filter_append]
  congr 1
  by_cases h : p[n]? = some true
  · simp [h]
  · simp [h]
theorem placesN_len (p : List Bool) (n : Nat) : (placesN p n).length ≤ n := by
  unfold placesN
  have := List.length_filter_le (fun j => p[j]? == some true) (List.range n)
  simpa using this
theorem orL_step {p q : List Bool} {i : Nat} {x y : Bool} (h : p.length = q.length) (hx : p[i]? = some x) (hy : q[i]? = some y) :
    ((orL p q).take i ++ p.drop i).set i (x || y) = (orL p q).take (i + 1) ++ p.drop (i + 1) := by
  have hl : i < p.length := (List.getElem?_eq_some_iff.1 hx).1
  have ho : (orL p q)[i]? = some (x || y) := by
    unfold orL
    rw [List.getElem?_zipWith, hx, hy]
  have hol := orL_len h
  have htl : ((orL p q).take i).length = i := by rw [List.length_take]; omega
  obtain ⟨_, rfl⟩ := List.getElem?_eq_some_iff.1 hx
  rw [List.drop_eq_getElem_cons hl, List.set_append_right _ _ (by omega), htl, Nat.sub_self, List.set_cons_zero, List.take_add_one, ho]
  simp

set_option maxHeartbeats 1000000 in
set_option maxRecDepth 20000 in
theorem mnOne (i0 n : Nat) (hi : i0 ≤ n) (hn : n ≤ 1000000) (w : World) :
    Calls Tryd.prog 77 #[.int .i64 (i0 : Nat), .int .i64 (n : Nat)] w fun e w' => ∃ v, e = .returned v ∧ PlV w' v (oneP i0 (n + 1)) ∧ Ext w w' := by
  have hw : IntKind.i64.wrap ((n : Int) + 1) = (n : Int) + 1 := wrap_id (by omega) (by omega)
  have hi1 : (i0 : Int) < (n : Int) + 1 := by omega
  have HI := Lib.hid hi
  have HN := Lib.hid hn
  clear hi hn
  go_enter Tryd.func77, Tryd.ntmps77
  go_wp2_with (at_make; refine wpList_mk1 Tryd.elemPl rfl rfl (.tmp 7) (.tmp 7) rfl (n := n + 1) (cap := n + 1) rfl rfl (by omega) (by omega) (Nat.le_refl _) (by have := HN.out; omega) (by have := HN.out; unfold maxLen; omega) ?_; intro w1 hB0 hb0; obtain ⟨x0, hc0⟩ := hB0.some_ (i := i0) (by have := HI.out; simp; omega); have hf0 := hB0.frozen i0; have HS := Lib.hid (hB0.set_ i0 (.bool true)); have HX := Lib.hid (show Ext w _ from hb0.setCell (p := ⟨w.heap.size, i0, none⟩) (Nat.le_refl _) (.bool true)); clear hB0 hb0)
  go_ret
  refine ⟨_, rfl, ?_, HX.out⟩
  have hs := HS.out
  have e : (List.replicate (n + 1) (Value.bool false)).set i0 (.bool true) = boolsV (oneP i0 (n + 1)) ++ [] := by
    unfold oneP
    rw [List.append_nil, ← boolsV_set]
    unfold boolsV
    rw [List.map_replicate]
  rw [e] at hs
  have hl := oneP_len i0 (n + 1)
  have := plv_blk (c := n + 1) hs (by omega) (by have := HN.out; unfold maxLen; omega)
  rw [hl] at this
  exact this

set_option maxHeartbeats 2000000 in
set_option maxRecDepth 20000 in
theorem mnOr (p q : List Bool) (hpq : p.length = q.length) (hp : 0 < p.length) (hn : p.length ≤ 1000001) (u v : Value) (w : World) (hu : PlV w u p) (hv : PlV w v q) :
    Calls Tryd.prog 90 #[u, v] w fun e w' => ∃ r, e = .returned r ∧ PlV w' r (orL p q) ∧ Ext w w' := by
  obtain ⟨A, c, rfl, h1, h2, hA⟩ := hu
  obtain ⟨B, d, rfl, i1, i2, hB⟩ := hv
  have HB := Lib.hid hB
  have HPQ := Lib.hid hpq
  have HP := Lib.hid hp
  have HN := Lib.hid hn
  clear hB hpq
  obtain ⟨n, hnq⟩ : ∃ n, q.length = n := ⟨_, rfl⟩
  have HNQ := Lib.hid hnq
  rw [hnq] at HB i1 ⊢
  clear hnq
  go_enter Tryd.func90, Tryd.ntmps90
  go_wp2_with (go_at_call 103; refine (plClone p A p.length c _ hA (by omega)).mono ?_; rintro e w1 ⟨v1, rfl, hown1, hx1⟩; obtain ⟨g, c1, rest, rfl, hg, hc1, hm1, hblk⟩ := own_blk hown1 hp; clear hown1)
  have HG := Lib.hid hg
  have HX1 := Lib.hid hx1
  have HBK := Lib.hid hblk
  have HC1 := Lib.hid hc1
  have HM1 := Lib.hid hm1
  have HNP := Lib.hid (show p.length = n by rw [HPQ.out, HNQ.out])
  clear hg hx1 hblk hc1 hm1 hp hn h1 h2 hA
  rw [HNP.out]
  go_loopg [12] n (fun gg iv wr => ∃ i : Nat, i ≤ n ∧ gg = n - i ∧ iv = .int .i64 (i : Nat) ∧ Blk wr g 4 (boolsV ((orL p q).take i ++ p.drop i) ++ rest) ∧ Ext w wr)
  case atStart => exact ⟨0, by omega, rfl, rfl, by simpa using HBK.out, HX1.out⟩
  case round =>
    obtain ⟨i, hi, rfl, rfl, hb, hx⟩ := hrel
    clear HBK HX1
    by_cases hlt : i < n
    · obtain ⟨x, hxe⟩ : ∃ x, p[i]? = some x := ⟨_, List.getElem?_eq_getElem (by rw [HNP.out]; exact hlt)⟩
      obtain ⟨y, hye⟩ : ∃ y, q[i]? = some y := ⟨_, List.getElem?_eq_getElem (by rw [HNQ.out]; exact hlt)⟩
      have hstep := orL_step HPQ.out hxe hye
      have hcur : ((orL p q).take i ++ p.drop i).length = n := by
        have := orL_len HPQ.out
        have := HNP.out
        rw [List.length_append, List.length_take, List.length_drop]; omega
      obtain ⟨b2, o2, rfl, _, hc2⟩ := (HB.out.keep hx).2 (by have := HNQ.out; rw [boolsV_len]; omega)
      have p2 : wr.cell? ⟨b2, o2 + i, none⟩ = some (.bool y) := hc2 i _ (by simp [boolsV, hye])
      have p1 : wr.cell? ⟨g, i, none⟩ = some (.bool x) := by
        rw [hb.cell, List.getElem?_append_left (by rw [boolsV_len, hcur]; exact hlt), boolsV_get, List.getElem?_append_right (by have := orL_len HPQ.out; have := HNP.out; rw [List.length_take]; omega), List.getElem?_drop, List.length_take, show i + (i - min i (orL p q).length) = i by have := orL_len HPQ.out; have := HNP.out; omega, hxe]; rfl
      have f1 := hb.frozen i
      have hset : ∀ z, (x || y) = z → Blk (wr.setCell ⟨g, i, none⟩ (.bool z)) g 4 (boolsV ((orL p q).take (i + 1) ++ p.drop (i + 1)) ++ rest) := fun z hz => by
        have h := hb.set_ i (.bool z)
        rw [List.set_append_left _ _ (by rw [boolsV_len, hcur]; exact hlt), boolsV_set, ← hz, hstep] at h
        rw [← hz]; exact h
      have HS := Lib.hid hset
      have HXS := Lib.hid (show ∀ z, Ext w (wr.setCell ⟨g, i, none⟩ z) from fun z => hx.setCell (p := ⟨g, i, none⟩) HG.out z)
      have hw : IntKind.i64.wrap ((i : Int) + 1) = (i : Int) + 1 := wrap_id (by omega) (by have := HN.out; have := HNP.out; omega)
      have hlt' : (i : Int) < (n : Int) := by omega
      clear hset hstep hcur hxe hye hc2 hb hx
      cases x
      · go_wp2
        go_roundg (n - (i + 1))
        case measure => omega
        case rel => exact ⟨i + 1, by omega, rfl, by go_num, HS.out y (by simp), HXS.out _⟩
      · go_wp2
        go_roundg (n - (i + 1))
        case measure => omega
        case rel => exact ⟨i + 1, by omega, rfl, by go_num, HS.out true (by simp), HXS.out _⟩
    · obtain rfl : i = n := by omega
      have hlt' : ¬ (i : Int) < (i : Int) := by omega
      have hol := orL_len HPQ.out
      have hb' : Blk wr g 4 (boolsV (orL p q) ++ rest) := by
        rw [List.take_of_length_le (by rw [hol, HNP.out]; exact Nat.le_refl _), List.drop_of_length_le (by rw [HNP.out]; exact Nat.le_refl _), List.append_nil] at hb
        exact hb
      have hres := plv_blk (c := c1) hb' (by rw [hol]; exact HC1.out) HM1.out
      rw [hol, HNP.out] at hres
      have HR := Lib.hid hres
      clear hb hb' hres hol
      go_wp2
      go_ret
      exact ⟨_, rfl, HR.out, hx⟩

set_option maxHeartbeats 2000000 in
set_option maxRecDepth 20000 in
theorem mnList (p : List Bool) (hn : p.length ≤ 1000001) (u : Value) (w : World) (hu : PlV w u p) :
    Calls Tryd.prog 78 #[u] w fun e w' => ∃ r, e = .returned r ∧ IlV w' r (natsI (placesL p)) ∧ Ext w w' := by
  obtain ⟨A, c, rfl, h1, h2, hA⟩ := hu
  obtain ⟨n, hnn⟩ : ∃ n, p.length = n := ⟨_, rfl⟩
  have HA := Lib.hid hA
  have HN := Lib.hid hn
  have HNP := Lib.hid hnn
  rw [hnn] at HA HN h1 ⊢
  clear hA hn hnn
  go_enter Tryd.func78, Tryd.ntmps78
  go_wp2
  go_loopg [3, 8] n (fun gg ov iv wr => ∃ i : Nat, i ≤ n ∧ gg = n - i ∧ iv = .int .i64 (i : Nat) ∧ wr.ownsRow w.heap.size 3 1 ov (placesN p i).length (intsV (natsI (placesN p i))) ∧ Ext w wr)
  case atStart => exact ⟨0, by omega, rfl, rfl, (show w.ownsRow w.heap.size 3 1 (.slice none 0 0) 0 [] from World.ownsRow_nil _ _ _ _), Ext.refl _⟩
  case round =>
    obtain ⟨i, hi, rfl, rfl, hown, hx⟩ := hrel
    by_cases hlt : i < n
    · obtain ⟨x, hxe⟩ : ∃ x, p[i]? = some x := ⟨_, List.getElem?_eq_getElem (by rw [HNP.out]; exact hlt)⟩
      obtain ⟨b2, o2, rfl, _, hc2⟩ := (HA.out.keep hx).2 (by have := HNP.out; rw [boolsV_len]; omega)
      have p2 : wr.cell? ⟨b2, o2 + i, none⟩ = some (.bool x) := hc2 i _ (by simp [boolsV, hxe])
      have HST := Lib.hid (placesN_succ p i)
      have HXE := Lib.hid hxe
      have HLN := Lib.hid (show (placesN p i).length ≤ 1000001 by have := placesN_len p i; have := HN.out; omega)
      have HOW := Lib.hid hown
      have hw : IntKind.i64.wrap ((i : Int) + 1) = (i : Int) + 1 := wrap_id (by omega) (by have := HN.out; omega)
      have hlt' : (i : Int) < (n : Int) := by omega
      have HX := Lib.hid hx
      clear hc2 hxe hown hx
      cases x
      · have HE := Lib.hid (show placesN p (i + 1) = placesN p i by rw [HST.out, HXE.out]; simp)
        go_wp2
        go_roundg (n - (i + 1))
        case measure => omega
        case rel => exact ⟨i + 1, by omega, rfl, by go_num, by rw [HE.out]; exact HOW.out, HX.out⟩
      · have HE := Lib.hid (show placesN p (i + 1) = placesN p i ++ [i] by rw [HST.out, HXE.out]; simp)
        have HSZ := Lib.hid HX.out.size
        go_wp2_with (at_builtin; refine wpList_app2 (v := u3) (n := (placesN p i).length) Tryd.elemI rfl (.tmp 14) (.tmp 16) rfl rfl (own_ext HOW.out (Ext.new1 _ _)) (by have := HSZ.out; simp; omega) rfl (rd_one wr (.int .i64 ((i : Nat) : Int)) 3) (one_one rfl) (by have := HLN.out; omega) (by have := HLN.out; unfold maxLen; omega) ?_; intro v4 w4 hown4 hg4 _ _)
        have hx4 : Ext w w4 := hg4.below (HX.out.alloc HSZ.out _) (Nat.le_refl _) (by have := HSZ.out; simp; omega)
        go_roundg (n - (i + 1))
        case measure => omega
        case rel => exact ⟨i + 1, by omega, rfl, by go_num, by rw [HE.out, List.length_append]; unfold natsI intsV at *; simpa using hown4, hx4⟩
    · obtain rfl : i = n := by omega
      have hlt' : ¬ (i : Int) < (i : Int) := by omega
      have e : placesN p i = placesL p := by unfold placesN placesL; rw [HNP.out]
      rw [e] at hown
      have HR := Lib.hid (own_il (l := natsI (placesL p)) (by unfold natsI at *; simpa using hown))
      clear hown e
      go_wp2
      go_ret
      exact ⟨_, rfl, HR.out, hx⟩
end Go.Proofs.YtmfdnjddggaeaaaDoor
