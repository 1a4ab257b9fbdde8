/- The law StreamParts walked. -/
import Derived.Test.YtnbdmlpnoiljdaaDoorStrm8
import Derived.Test.YtnbdmlpnoiljdaaDoorEv
namespace Go.Proofs.YtnbdmlpnoiljdaaDoor
open Go Go.RowKit

theorem modN (x : Int) (d : Nat) (h1 : 1 ≤ d) (h2 : d ≤ 1000000) : ∃ y : Nat, wrap64 ((IntKind.u64.wrap x).tmod (d : Int)) = (y : Int) ∧ y < d := by
  obtain ⟨u, hu⟩ : ∃ u : Nat, IntKind.u64.wrap x = (u : Int) := by
    have h : 0 ≤ IntKind.u64.wrap x := by
      simp [IntKind.wrap, IntKind.signed, IntKind.bits]
      omega
    exact ⟨(IntKind.u64.wrap x).toNat, by omega⟩
  refine ⟨u % d, ?_, Nat.mod_lt _ h1⟩
  have hm : u % d < d := Nat.mod_lt _ h1
  rw [hu, show ((u : Int).tmod (d : Int)) = ((u % d : Nat) : Int) by rw [Int.tmod_eq_emod_of_nonneg (by omega)]; rfl]
  unfold wrap64
  omega

theorem ris_part {many : Nat} (i j : Nat) : ∀ (L : List Int) (last : Int), -1 ≤ last → risA last many L = true → risA (max (last - i) (-1)) (j - i) (marksIn L i j) = true ∧ ((L.filter fun x => decide (x < (i : Int))) ++ (marksIn L i j).map fun x => (i : Int) + x) = L.filter (fun x => decide (x < ((max i j : Nat) : Int))) := by
  intro L
  induction L with
  | nil => intro last _ _; simp [marksIn, risA]
  | cons x r ih =>
    intro last hl h
    obtain ⟨h1, h2, h3⟩ := risA_cons h
    obtain ⟨i1, i2⟩ := ih x (by omega) h3
    by_cases hx : x < (i : Int)
    · have e : marksIn (x :: r) i j = marksIn r i j := by unfold marksIn; rw [List.filter_cons, if_neg (by simp; omega)]
      rw [e, List.filter_cons, if_pos (by simpa using hx), List.filter_cons, if_pos (by simp; omega), List.cons_append, i2]
      refine ⟨?_, rfl⟩
      rw [show max (x - (i : Int)) (-1) = max (last - i) (-1) by omega] at i1
      exact i1
    · by_cases hx2 : x < (j : Int)
      · have e : marksIn (x :: r) i j = (x - i) :: marksIn r i j := by unfold marksIn; rw [List.filter_cons, if_pos (by simp; omega)]; rfl
        have hr0 : r.filter (fun x => decide (x < (i : Int))) = [] := by
          rw [List.filter_eq_nil_iff]; intro y hy; have := risA_mem h3 y hy; simp; omega
        rw [e, List.filter_cons, if_neg (by simpa using hx), hr0, List.nil_append]
        rw [hr0, List.nil_append] at i2
        refine ⟨?_, ?_⟩
        · simp only [risA, Bool.and_eq_true, decide_eq_true_eq]
          refine ⟨by omega, by omega, ?_⟩
          rw [show max (x - (i : Int)) (-1) = x - i by omega] at i1
          exact i1
        · rw [List.map_cons, i2, List.filter_cons, if_pos (by simp; omega)]
          congr 1; omega
      · have hr0 : r.filter (fun x => decide (x < (i : Int))) = [] := by
          rw [List.filter_eq_nil_iff]; intro y hy; have := risA_mem h3 y hy; simp; omega
        have hr1 : ∀ k : Nat, ((k : Int) ≤ x) → r.filter (fun x => decide (x < (k : Int))) = [] := fun k hk => by
          rw [List.filter_eq_nil_iff]; intro y hy; have := risA_mem h3 y hy; simp; omega
        have e : marksIn (x :: r) i j = [] := by
          unfold marksIn
          rw [List.map_eq_nil_iff, List.filter_eq_nil_iff]
          intro y hy
          rcases List.mem_cons.1 hy with rfl | hy
          · simp; omega
          · have := risA_mem h3 y hy; simp; omega
        rw [e, List.filter_cons, if_neg (by simpa using hx), hr0, List.filter_cons, if_neg (by simp; omega), hr1 (max i j) (by omega)]
        exact ⟨rfl, rfl⟩
theorem filt_all {many : Nat} : ∀ {L : List Int} {last : Int}, risA last many L = true → L.filter (fun x => decide (x < (many : Int))) = L := by
  intro L last h
  rw [List.filter_eq_self]
  intro x hx
  have := risA_mem h x hx
  simp; omega
theorem marks_take_snoc {L : List Int} {k : Nat} {x : Int} (h : L[k]? = some x) (i j : Nat) : marksIn (L.take (k + 1)) i j = marksIn (L.take k) i j ++ (if (i : Int) ≤ x ∧ x < (j : Int) then [x - i] else []) := by
  have hk : k < L.length := (List.getElem?_eq_some_iff.1 h).1
  have hx : L[k] = x := by rw [List.getElem?_eq_getElem hk] at h; exact Option.some.inj h
  rw [List.take_succ_eq_append_getElem hk, hx]
  unfold marksIn
  rw [List.filter_append, List.map_append]
  congr 1
  by_cases hc : (i : Int) ≤ x ∧ x < (j : Int)
  · rw [if_pos hc, List.filter_cons, if_pos (by simpa using hc)]; rfl
  · rw [if_neg hc, List.filter_cons, if_neg (by simpa using hc)]; rfl
theorem marksIn_le (L : List Int) (i j : Nat) : (marksIn L i j).length ≤ L.length := by
  unfold marksIn; rw [List.length_map]; exact List.length_filter_le _ _

/-- What the second stream has when 'at' bytes were delivered. -/
def partS (b : List UInt8) (L : List Int) (k : Nat) : St := ⟨b.take k, L.filter (fun x => decide (x < (k : Int))), 0, false, [], []⟩
theorem part_next {b : List UInt8} {L : List Int} {i j : Nat} (hr : risA (-1) b.length L = true) (hij : i ≤ j) (hj : j ≤ b.length) : (partS b L i).deliver ((b.take j).drop i) (marksIn L i j) = partS b L j ∧ risA (-1) (j - i) (marksIn L i j) = true := by
  obtain ⟨h1, h2⟩ := ris_part i j L (-1) (by omega) hr
  refine ⟨?_, by rw [show max (-1 - (i : Int)) (-1) = -1 by omega] at h1; exact h1⟩
  have hl : (b.take i).length = i := by simp; omega
  unfold St.deliver partS
  simp only [St.mk.injEq, and_true]
  constructor
  · have h : b.take i = (b.take j).take i := by rw [List.take_take, Nat.min_eq_left hij]
    rw [h, List.take_append_drop]
  · rw [hl, show max i j = j by omega] at *
    rw [← h2]
    congr 1
    simp

set_option maxHeartbeats 8000000 in
set_option maxRecDepth 20000 in
theorem lawParts3 (E : Nat → Addr) (l : List UInt8) (L K : List Int) (A B D : Option Addr) (n c m d p q : Nat) (w : World) (hE : ErrC [0, 1, 13] w E) (hnc : n ≤ c) (hr : Rd w 1 A n (bytesV l)) (hr1 : Rd w 1 B m (intsV L)) (hr2 : Rd w 1 D p (intsV K)) :
    Calls Tryd.prog 4 #[.slice A n c, .slice B m d, .slice D p q] w fun e w' => e = .returned (.bool true) ∧ Ext w w' := by
  by_cases hbig : 300 < n ∨ 40 < m ∨ 60 < p
  · have hbig' : 300 < n ∨ (¬ 300 < n ∧ 40 < m) ∨ (¬ 300 < n ∧ ¬ 40 < m ∧ 60 < p) := by omega
    clear hbig
    rcases hbig' with h | ⟨h1, h⟩ | ⟨h1, h2, h⟩
    all_goals
      go_enter Tryd.func4, Tryd.ntmps4
      go_wp2_with (go_at_call 22; refine (strmAlive _).mono ?_; rintro e w1 ⟨rfl, hb1⟩)
      go_ret
      exact ⟨rfl, hb1⟩
  have hn300 : n ≤ 300 := by omega
  have hm40 : m ≤ 40 := by omega
  have hp60 : p ≤ 60 := by omega
  have hl := hr.len_bytes
  have hl1 := hr1.len_ints
  have hl2 := hr2.len_ints
  have HR := Lib.hid hr
  have HR1 := Lib.hid hr1
  have HR2 := Lib.hid hr2
  have HL := Lib.hid hl
  have HL1 := Lib.hid hl1
  have HL2 := Lib.hid hl2
  obtain ⟨r, hrb⟩ : ∃ r, risA (-1) n L = r := ⟨_, rfl⟩
  have HRB := Lib.hid hrb
  clear hr hr1 hr2 hl hl1 hl2 hbig hrb
  cases r
  case false =>
    have hn0 := fun w => run_eql_iface_nil (P := Tryd.prog) (w := w) 35 (by kernel_rfl) 145 (.pointer (some (E 0)))
    go_enter Tryd.func4, Tryd.ntmps4
    go_wp2_with (first
      | (go_at_call 24; refine (strmDeliverErr (hS2.keep hb3) ((hE.sub (J := [0, 1, 13]) (by simp)).keep (hb1.trans (hb2.trans hb3))) A B n c m d L (by omega) (by omega) (HR1.out.keep (hb1.trans (hb2.trans hb3))) false HRB.out 0 (.inr (.inl ⟨rfl, rfl, rfl⟩))).mono ?_; rintro e w4 ⟨rfl, rfl⟩; unfold errV)
      | (go_at_call 23; have hz := hS2; refine (strmNew 400 _ (by omega) (by omega)).mono ?_; rintro e w3 ⟨m3, rfl, hS3, hR3, hb3⟩)
      | (go_at_call 23; refine (strmNew 400 _ (by omega) (by omega)).mono ?_; rintro e w2 ⟨m2, rfl, hS2, hR2, hb2⟩)
      | (go_at_call 22; refine (strmAlive _).mono ?_; rintro e w1 ⟨rfl, hb1⟩))
    go_ret
    exact ⟨rfl, hb1.trans (hb2.trans hb3)⟩
  go_enter Tryd.func4, Tryd.ntmps4
  go_wp2_with (first
    | (go_at_call 24; refine (strmDeliver hA3 A B n c m d l L (by simp; omega) (by simp; omega) (HR1.out.keep hx3) (HR.out.keep hx3) (fun h0 => hA3.older HR.out (by have := HL.out; simp [bytesV]; omega)) (fun h0 => hA3.older HR1.out (by have := HL1.out; simp [intsV]; omega)) HRB.out rfl).mono ?_; rintro e w4 ⟨rfl, ht4⟩; have hT4 := TwoAt.left hA3 hB3 hd3 hx3 ht4 rfl rfl rfl rfl; have HT4 := Lib.hid hT4; clear ht4 hT4)
    | (go_at_call 23; have hz := hS2; refine (strmNew 400 _ (by omega) (by omega)).mono ?_; rintro e w3 ⟨m3, rfl, hS3, hR3, hb3⟩;
       have hT : TwoAt w w3 m2.a m3.a 400 ⟨[], [], 0, false, [], []⟩ ⟨[], [], 0, false, [], []⟩ := (⟨m2, m3, (hS2.keep hb3).mono hb1.size, hS3.mono (Nat.le_trans hb1.size hb2.size), rfl, hR2, rfl, hR3, fun k hk hk2 => (by have := (hS2.lt hk).2; have := (hS3.lt hk2).1; omega), hb1.trans (hb2.trans hb3)⟩);
       generalize m2.a = sa at *; generalize m3.a = ta at *; obtain ⟨p1, g1, f1, s1, vi1, vm1, vw1, p2, g2, f2, s2, vi2, vm2, vw2, hA3, hB3, hd3, hx3⟩ := hT.get)
    | (go_at_call 23; refine (strmNew 400 _ (by omega) (by omega)).mono ?_; rintro e w2 ⟨m2, rfl, hS2, hR2, hb2⟩)
    | (go_at_call 22; refine (strmAlive _).mono ?_; rintro e w1 ⟨rfl, hb1⟩))
  have hT4 := HT4.out
  have hq0 : (⟨[], [], 0, false, [], []⟩ : St) = partS l L 0 := by
    unfold partS
    have : L.filter (fun x => decide (x < ((0 : Nat) : Int))) = [] := by
      rw [List.filter_eq_nil_iff]; intro y hy; have := risA_mem HRB.out y hy; simp; omega
    rw [this]; simp
  have hq1 : (⟨[], [], 0, false, [], []⟩ : St).deliver l L = partS l L n := by
    unfold partS St.deliver
    rw [filt_all HRB.out, List.take_of_length_le (by rw [HL.out]; exact Nat.le_refl _)]
    simp
  rw [hq1, hq0] at hT4
  have HT5 := Lib.hid hT4
  clear hT4 hq0 hq1 hT hz hS2 hS3 hA3 hB3 hd3 hx3 hb1 hb2 hb3 hR2 hR3 HT4
  go_loopw [11, 12] (fun av i wr => ∃ (k a : Nat), k ≤ p + 1 ∧ a ≤ n ∧ (k = p + 1 → a = n) ∧ av = .int .i64 a ∧ i = .int .i64 k ∧ TwoAt w wr sa ta 400 (partS l L n) (partS l L a)) (fun _ i _ => p + 1 - (intOf i).toNat)
  case atStart => exact ⟨0, 0, by omega, Nat.zero_le _, by omega, rfl, rfl, HT5.out⟩
  case round =>
    obtain ⟨k, a, hk, ha, hka, rfl, rfl, hT⟩ := hrel
    obtain ⟨wo, hwo⟩ : ∃ wo, wo = wr := ⟨wr, rfl⟩
    subst hwo
    obtain ⟨p1, g1, f1, s1, vi1, vm1, vw1, p2, g2, f2, s2, vi2, vm2, vw2, hS, hT2, hd, hb⟩ := hT.get
    by_cases hle : k ≤ p
    · obtain ⟨to, hto⟩ : ∃ to : Nat, (k < p ∧ ∃ x y : Nat, ∃ (b o : Nat) (z : Int), D = some ⟨b, o, none⟩ ∧ wo.cell? ⟨b, o + k, none⟩ = some (.int .i64 z) ∧ wrap64 ((IntKind.u64.wrap z).tmod ((n - a + 1 : Nat) : Int)) = (y : Int) ∧ y < n - a + 1 ∧ to = a + y) ∨ (k = p ∧ to = n) := by
        by_cases hkp : k < p
        · obtain ⟨z, hz⟩ : ∃ z, K[k]? = some z := ⟨_, List.getElem?_eq_getElem (by rw [HL2.out]; exact hkp)⟩
          obtain ⟨b, o, e, hlt, hc⟩ := HR2.out.2 (by simp [intsV]; have := HL2.out; omega)
          obtain ⟨y, h1, h2⟩ := modN z (n - a + 1) (by omega) (by omega)
          exact ⟨a + y, .inl ⟨hkp, 0, y, b, o, z, e, (hb.cell (p := ⟨b, o + k, none⟩) hlt).trans (hc k _ (by simp [intsV, hz])), h1, h2, rfl⟩⟩
        · exact ⟨n, .inr ⟨by omega, rfl⟩⟩
      have hto2 : a ≤ to ∧ to ≤ n := by
        rcases hto with ⟨_, _, y, _, _, _, _, _, _, _, h⟩ | ⟨_, h⟩ <;> omega
      have hown0 := own_empty wo 3 1
      have hx0 := Ext.new1 wo (.cells #[] 3)
      have hTk := hT.keep hx0
      rcases hto with ⟨hkp, _, y, bp, op, z, rfl, hcz, hy, hy2, hty⟩ | ⟨hkp, hton⟩
      · have hy' : wrap64 ((IntKind.u64.wrap z).tmod ((n : Int) - a + 1)) = (y : Int) := by rw [← hy]; congr 2; omega
        have hty' : (a : Int) + y = to := by omega
        have hfin : k + 1 = p + 1 → to = n := by omega
        clear hy hty
        go_wp2
        clear hy' hty' hcz
        go_loopw [14, 99] (fun v i wi => ∃ (j : Nat), j ≤ m ∧ i = .int .i64 j ∧ wi.ownsRow wo.heap.size 3 1 v (marksIn (L.take j) a to).length (intsV (marksIn (L.take j) a to)) ∧ Ext wo wi) (fun _ i _ => m - (intOf i).toNat)
        case atStart => exact ⟨0, Nat.zero_le _, rfl, by simpa [marksIn, intsV] using hown0, hx0⟩
        case round =>
          clear hown0 hx0 hTk
          obtain ⟨j, hj, rfl, hown, hxi⟩ := hrel
          have hszi := hxi.size
          by_cases hlt : j < m
          · obtain ⟨x, hx⟩ : ∃ x, L[j]? = some x := ⟨_, List.getElem?_eq_getElem (by rw [HL1.out]; exact hlt)⟩
            obtain ⟨bm, om, rfl, hbm, hcm⟩ := HR1.out.2 (by simp [intsV]; have := HL1.out; omega)
            have hcx : wr.cell? ⟨bm, om + j, none⟩ = some (.int .i64 x) := ((hb.trans hxi).cell (p := ⟨bm, om + j, none⟩) hbm).trans (hcm j _ (by simp [intsV, hx]))
            have hxr := risA_mem HRB.out x (List.mem_of_getElem? hx)
            have hx1 := hxr.1
            have hx2 := hxr.2
            have htk := marks_take_snoc hx a to
            have hml : (marksIn (L.take j) a to).length ≤ j := Nat.le_trans (marksIn_le _ _ _) (by simp; omega)
            clear hcm hx hxr
            by_cases hin : (a : Int) ≤ x ∧ x < (to : Int)
            · obtain ⟨hi1, hi2⟩ := hin
              rw [if_pos ⟨hi1, hi2⟩] at htk
              have HTK := Lib.hid htk
              obtain ⟨M, hM⟩ : ∃ M, marksIn (L.take j) a to = M := ⟨_, rfl⟩
              rw [hM] at hml hown
              have HM := Lib.hid hM
              have HOWN := Lib.hid hown
              clear htk hM hown
              go_wp2_with (at_builtin; refine wpList_app2 Tryd.elemI rfl (.tmp 111) (.tmp 115) rfl (n := M.length) rfl (own_ext HOWN.out (Ext.new1 _ _)) (by simp; omega) rfl (rd_one wr (.int .i64 (x - a)) 3) (one_one rfl) (by omega) (by unfold maxLen; omega) ?_; intro v4 w4 hown4 hg4 _ _; have hx4 : Ext wo w4 := hg4.below (hxi.alloc hszi _) (Nat.le_refl _) (by simp; omega); have HOWN4 := Lib.hid hown4; clear hown4 hg4)
              have hm4 : M ++ [x - (a : Int)] = marksIn (L.take (j + 1)) a to := by rw [HTK.out, HM.out]
              have hown5 : w4.ownsRow wo.heap.size 3 1 v4 (marksIn (L.take (j + 1)) a to).length (intsV (marksIn (L.take (j + 1)) a to)) := by
                rw [← hm4, List.length_append]
                simpa [intsV] using HOWN4.out
              have HO5 := Lib.hid hown5
              clear hm4 hown5
              go_roundw
              case rel => exact ⟨j + 1, hlt, by go_num, HO5.out, hx4⟩
              case measure => simp [intOf]; omega
            · rw [if_neg hin, List.append_nil] at htk
              rw [← htk] at hown
              have HOWN := Lib.hid hown
              have hin' : x < (a : Int) ∨ ((a : Int) ≤ x ∧ ¬ x < (to : Int)) := by omega
              clear htk hown hin
              rcases hin' with hi1 | ⟨hi1, hi2⟩
              all_goals first
                | (exfalso; omega)
                | skip
              all_goals
                go_wp2
                go_roundw
                case rel => exact ⟨j + 1, hlt, by go_num, HOWN.out, hxi⟩
                case measure => simp [intOf]; omega
          · obtain rfl : j = m := by omega
            rw [List.take_of_length_le (by rw [HL1.out]; exact Nat.le_refl _)] at hown
            obtain ⟨A5, c5, rfl, _, _, hrd5⟩ := own_rd hown
            have hOl := hown.lt
            obtain ⟨hpn, hpr⟩ := part_next (b := l) (L := L) (i := a) (j := to) (by rw [HL.out]; exact HRB.out) hto2.1 (by rw [HL.out]; exact hto2.2)
            have hlen5 : (marksIn L a to).length ≤ j := Nat.le_trans (marksIn_le _ _ _) (by have := HL1.out; omega)
            have hSi := hS.keep hxi
            have hTi := hT2.keep hxi
            have hbi := hb.trans hxi
            have hfs : (partS l L a).marks.length ≤ j := by
              have : (partS l L a).marks.length ≤ L.length := List.length_filter_le _ _
              have := HL1.out; omega
            have hfi : (partS l L a).inn.length = a := by simp [partS]; have := HL.out; omega
            obtain ⟨nl5, hnl5⟩ : ∃ nl5, (marksIn L a to).length = nl5 := ⟨_, rfl⟩
            rw [hnl5] at hrd5 hlen5 hOl ⊢
            have HPN := Lib.hid hpn
            have HPR := Lib.hid hpr
            have HRD5 := Lib.hid hrd5
            have hapart : 0 < nl5 → ∀ q, ob (.slice A5 nl5 c5) = q + 1 → ¬ (⟨ta, p2, g2, 400, f2, s2, vi2, vm2, vw2⟩ : Mem).In q := fun _ q hq hi => by
              have h1 := (hT2.lt hi).2
              have h2 := (hOl q (ob_own.2 hq)).1
              omega
            have HAP := Lib.hid hapart
            have hfi2 : (partS l L a).read = 0 := rfl
            clear hown hpn hpr hrd5 hapart hnl5
            by_cases hca : c = a
            · have hce : (c = a) = True := by simp [hca]
              have hcut : Rd w 1 A (to - a) (bytesV ((l.take to).drop a)) := HR.out.dropB hto2.2 hto2.1 rfl (fun hlt _ _ _ => by omega)
              have HCUT := Lib.hid hcut
              clear hca hcut
              go_wp2_with (go_at_call 24; go_loud (refine (strmDeliver hTi _ A5 (to - a) _ nl5 c5 ((l.take to).drop a) (marksIn L a to) (by rw [hfi, hfi2]; omega) (by omega) HRD5.out (HCUT.out.keep hbi) (fun h0 => hT2.older HCUT.out (by have := HCUT.out.1; omega)) HAP.out HPR.out rfl).mono ?_); rw [HPN.out]; rintro e w6 ⟨rfl, ht6⟩; have hT6 := TwoAt.right hSi hTi hd hbi ht6 rfl rfl rfl rfl; have HT6 := Lib.hid hT6; clear hT6 ht6)
              go_roundw
              case rel => exact ⟨k + 1, to, by omega, hto2.2, (fun h => by first | exact hfin h | rfl), rfl, by go_num, HT6.out⟩
              case measure => simp [intOf]; omega
            · have hca2 : a < c := by omega
              have hcut : Rd w 1 (Option.map (fun x => x.add a) A) (to - a) (bytesV ((l.take to).drop a)) := HR.out.dropB hto2.2 hto2.1 rfl (fun _ b' o' e => by rw [e]; simp [Addr.add])
              have HCUT := Lib.hid hcut
              clear hca hcut
              go_wp2_with (go_at_call 24; go_loud (refine (strmDeliver hTi _ A5 (to - a) _ nl5 c5 ((l.take to).drop a) (marksIn L a to) (by rw [hfi, hfi2]; omega) (by omega) HRD5.out (HCUT.out.keep hbi) (fun h0 => hT2.older HCUT.out (by have := HCUT.out.1; omega)) HAP.out HPR.out rfl).mono ?_); rw [HPN.out]; rintro e w6 ⟨rfl, ht6⟩; have hT6 := TwoAt.right hSi hTi hd hbi ht6 rfl rfl rfl rfl; have HT6 := Lib.hid hT6; clear hT6 ht6)
              go_roundw
              case rel => exact ⟨k + 1, to, by omega, hto2.2, (fun h => by first | exact hfin h | rfl), rfl, by go_num, HT6.out⟩
              case measure => simp [intOf]; omega
      · obtain rfl : n = to := hton.symm
        have hfin : k + 1 = p + 1 → n = n := fun _ => rfl
        have hnlt : ¬ (k : Int) < p := by omega
        go_wp2
        go_loopw [14, 99] (fun v i wi => ∃ (j : Nat), j ≤ m ∧ i = .int .i64 j ∧ wi.ownsRow wo.heap.size 3 1 v (marksIn (L.take j) a n).length (intsV (marksIn (L.take j) a n)) ∧ Ext wo wi) (fun _ i _ => m - (intOf i).toNat)
        case atStart => exact ⟨0, Nat.zero_le _, rfl, by simpa [marksIn, intsV] using hown0, hx0⟩
        case round =>
          clear hown0 hx0 hTk
          obtain ⟨j, hj, rfl, hown, hxi⟩ := hrel
          have hszi := hxi.size
          by_cases hlt : j < m
          · obtain ⟨x, hx⟩ : ∃ x, L[j]? = some x := ⟨_, List.getElem?_eq_getElem (by rw [HL1.out]; exact hlt)⟩
            obtain ⟨bm, om, rfl, hbm, hcm⟩ := HR1.out.2 (by simp [intsV]; have := HL1.out; omega)
            have hcx : wr.cell? ⟨bm, om + j, none⟩ = some (.int .i64 x) := ((hb.trans hxi).cell (p := ⟨bm, om + j, none⟩) hbm).trans (hcm j _ (by simp [intsV, hx]))
            have hxr := risA_mem HRB.out x (List.mem_of_getElem? hx)
            have hx1 := hxr.1
            have hx2 := hxr.2
            have htk := marks_take_snoc hx a n
            have hml : (marksIn (L.take j) a n).length ≤ j := Nat.le_trans (marksIn_le _ _ _) (by simp; omega)
            clear hcm hx hxr
            by_cases hin : (a : Int) ≤ x ∧ x < (n : Int)
            · obtain ⟨hi1, hi2⟩ := hin
              rw [if_pos ⟨hi1, hi2⟩] at htk
              have HTK := Lib.hid htk
              obtain ⟨M, hM⟩ : ∃ M, marksIn (L.take j) a n = M := ⟨_, rfl⟩
              rw [hM] at hml hown
              have HM := Lib.hid hM
              have HOWN := Lib.hid hown
              clear htk hM hown
              go_wp2_with (at_builtin; refine wpList_app2 Tryd.elemI rfl (.tmp 111) (.tmp 115) rfl (n := M.length) rfl (own_ext HOWN.out (Ext.new1 _ _)) (by simp; omega) rfl (rd_one wr (.int .i64 (x - a)) 3) (one_one rfl) (by omega) (by unfold maxLen; omega) ?_; intro v4 w4 hown4 hg4 _ _; have hx4 : Ext wo w4 := hg4.below (hxi.alloc hszi _) (Nat.le_refl _) (by simp; omega); have HOWN4 := Lib.hid hown4; clear hown4 hg4)
              have hm4 : M ++ [x - (a : Int)] = marksIn (L.take (j + 1)) a n := by rw [HTK.out, HM.out]
              have hown5 : w4.ownsRow wo.heap.size 3 1 v4 (marksIn (L.take (j + 1)) a n).length (intsV (marksIn (L.take (j + 1)) a n)) := by
                rw [← hm4, List.length_append]
                simpa [intsV] using HOWN4.out
              have HO5 := Lib.hid hown5
              clear hm4 hown5
              go_roundw
              case rel => exact ⟨j + 1, hlt, by go_num, HO5.out, hx4⟩
              case measure => simp [intOf]; omega
            · rw [if_neg hin, List.append_nil] at htk
              rw [← htk] at hown
              have HOWN := Lib.hid hown
              have hin' : x < (a : Int) ∨ ((a : Int) ≤ x ∧ ¬ x < (n : Int)) := by omega
              clear htk hown hin
              rcases hin' with hi1 | ⟨hi1, hi2⟩
              all_goals first
                | (exfalso; omega)
                | skip
              all_goals
                go_wp2
                go_roundw
                case rel => exact ⟨j + 1, hlt, by go_num, HOWN.out, hxi⟩
                case measure => simp [intOf]; omega
          · obtain rfl : j = m := by omega
            rw [List.take_of_length_le (by rw [HL1.out]; exact Nat.le_refl _)] at hown
            obtain ⟨A5, c5, rfl, _, _, hrd5⟩ := own_rd hown
            have hOl := hown.lt
            obtain ⟨hpn, hpr⟩ := part_next (b := l) (L := L) (i := a) (j := n) (by rw [HL.out]; exact HRB.out) hto2.1 (by rw [HL.out]; exact hto2.2)
            have hlen5 : (marksIn L a n).length ≤ j := Nat.le_trans (marksIn_le _ _ _) (by have := HL1.out; omega)
            have hSi := hS.keep hxi
            have hTi := hT2.keep hxi
            have hbi := hb.trans hxi
            have hfs : (partS l L a).marks.length ≤ j := by
              have : (partS l L a).marks.length ≤ L.length := List.length_filter_le _ _
              have := HL1.out; omega
            have hfi : (partS l L a).inn.length = a := by simp [partS]; have := HL.out; omega
            obtain ⟨nl5, hnl5⟩ : ∃ nl5, (marksIn L a n).length = nl5 := ⟨_, rfl⟩
            rw [hnl5] at hrd5 hlen5 hOl ⊢
            have HPN := Lib.hid hpn
            have HPR := Lib.hid hpr
            have HRD5 := Lib.hid hrd5
            have hapart : 0 < nl5 → ∀ q, ob (.slice A5 nl5 c5) = q + 1 → ¬ (⟨ta, p2, g2, 400, f2, s2, vi2, vm2, vw2⟩ : Mem).In q := fun _ q hq hi => by
              have h1 := (hT2.lt hi).2
              have h2 := (hOl q (ob_own.2 hq)).1
              omega
            have HAP := Lib.hid hapart
            have hfi2 : (partS l L a).read = 0 := rfl
            clear hown hpn hpr hrd5 hapart hnl5
            by_cases hca : c = a
            · have hce : (c = a) = True := by simp [hca]
              have hcut : Rd w 1 A (n - a) (bytesV ((l.take n).drop a)) := HR.out.dropB hto2.2 hto2.1 rfl (fun hlt _ _ _ => by omega)
              have HCUT := Lib.hid hcut
              clear hca hcut
              go_wp2_with (go_at_call 24; go_loud (refine (strmDeliver hTi _ A5 (n - a) _ nl5 c5 ((l.take n).drop a) (marksIn L a n) (by rw [hfi, hfi2]; omega) (by omega) HRD5.out (HCUT.out.keep hbi) (fun h0 => hT2.older HCUT.out (by have := HCUT.out.1; omega)) HAP.out HPR.out rfl).mono ?_); rw [HPN.out]; rintro e w6 ⟨rfl, ht6⟩; have hT6 := TwoAt.right hSi hTi hd hbi ht6 rfl rfl rfl rfl; have HT6 := Lib.hid hT6; clear hT6 ht6)
              go_roundw
              case rel => exact ⟨k + 1, n, by omega, hto2.2, (fun h => by first | exact hfin h | rfl), rfl, by go_num, HT6.out⟩
              case measure => simp [intOf]; omega
            · have hca2 : a < c := by omega
              have hcut : Rd w 1 (Option.map (fun x => x.add a) A) (n - a) (bytesV ((l.take n).drop a)) := HR.out.dropB hto2.2 hto2.1 rfl (fun _ b' o' e => by rw [e]; simp [Addr.add])
              have HCUT := Lib.hid hcut
              clear hca hcut
              go_wp2_with (go_at_call 24; go_loud (refine (strmDeliver hTi _ A5 (n - a) _ nl5 c5 ((l.take n).drop a) (marksIn L a n) (by rw [hfi, hfi2]; omega) (by omega) HRD5.out (HCUT.out.keep hbi) (fun h0 => hT2.older HCUT.out (by have := HCUT.out.1; omega)) HAP.out HPR.out rfl).mono ?_); rw [HPN.out]; rintro e w6 ⟨rfl, ht6⟩; have hT6 := TwoAt.right hSi hTi hd hbi ht6 rfl rfl rfl rfl; have HT6 := Lib.hid hT6; clear hT6 ht6)
              go_roundw
              case rel => exact ⟨k + 1, n, by omega, hto2.2, (fun h => by first | exact hfin h | rfl), rfl, by go_num, HT6.out⟩
              case measure => simp [intOf]; omega
    · -- BEHIND
      have hkp1 : k = p + 1 := by omega
      obtain rfl : n = a := (hka hkp1).symm
      have hplt : p < k := by omega
      have HT7 := Lib.hid hT
      clear hT hS hT2 hd hb hka HT5 hle hkp1 hk
      go_wp2
      (try rw [show decide (k ≤ p) = false by simp; omega])
      clear hplt
      go_loopw [130] (fun i wr => ∃ (k : Nat) (S : St), k ≤ n + 1 ∧ i = .int .i64 k ∧ S.closed = false ∧ S.q = [] ∧ S.wire = [] ∧ TwoAt w wr sa ta 400 S S) (fun i _ => n + 1 - (intOf i).toNat)
      case atStart => exact ⟨0, partS l L n, Nat.zero_le _, rfl, rfl, rfl, rfl, HT7.out⟩
      case round =>
        clear HT7
        obtain ⟨k, S, hk, rfl, hcl, hq, hw, hT⟩ := hrel
        obtain ⟨p1, g1, f1, s1, vi1, vm1, vw1, p2, g2, f2, s2, vi2, vm2, vw2, hS, hT2, hd, hb⟩ := hT.get
        by_cases hlt : k < n + 1
        · have HCL := Lib.hid hcl
          have HQ := Lib.hid hq
          have HW := Lib.hid hw
          clear hcl hq hw
          cases hin : S.inn with
          | nil =>
            have HIN := Lib.hid hin
            clear hin
            go_wp2_with (first
              | (go_at_call 25; have hz := hs0; refine (strmNext0 hT2 HIN.out).mono ?_; rintro e w6 ⟨rfl, rfl⟩)
              | (go_at_call 25; refine (strmNext0 hS HIN.out).mono ?_; rintro e w5 ⟨rfl, rfl⟩; have hs0 : True := trivial))
            go_roundw
            case rel => exact ⟨k + 1, S, by omega, by go_num, HCL.out, HQ.out, HW.out, hT⟩
            case measure => simp [intOf]; omega
          | cons x rr =>
            have HIN := Lib.hid hin
            obtain ⟨mk, hmk⟩ : ∃ mk, markNow S = mk := ⟨_, rfl⟩
            have HMK := Lib.hid hmk
            clear hin hmk
            go_wp2_with (first
              | (go_at_call 25; have hz := hT5; refine (strmNext1 hT5 x rr HIN.out).mono ?_; rw [HMK.out]; rintro e w6 ⟨rfl, ht6⟩; have hT6 := TwoAt.right hS5 hT5 hd5 hb5 ht6 rfl rfl rfl rfl; have HT6 := Lib.hid hT6; clear hT6 ht6 hz)
              | (go_at_call 25; refine (strmNext1 hS x rr HIN.out).mono ?_; rw [HMK.out]; rintro e w5 ⟨rfl, ht5⟩; obtain ⟨p5, g5, f5, s5, vi5, vm5, vw5, p6, g6, f6, s6, vi6, vm6, vw6, hS5, hT5, hd5, hb5⟩ := (TwoAt.left hS hT2 hd hb ht5 rfl rfl rfl rfl).get))
            go_roundw
            case rel => exact ⟨k + 1, S.next, by omega, by go_num, HCL.out, HQ.out, HW.out, HT6.out⟩
            case measure => simp [intOf]; omega
        · have hkn1 : n < k := by omega
          have hlp : ∃ T, T.closed = false ∧ T.wire ++ T.q = [] ∧ TwoAt w wr sa ta 400 S T := ⟨S, hcl, by rw [hq, hw]; rfl, hT⟩
          have HLP := Lib.hid hlp
          have hn1 := fun w => run_eql_iface_nil (P := Tryd.prog) (w := w) 35 (by kernel_rfl) 145 (.pointer (some (E 1)))
          clear hlp hT hS hT2 hd hb hcl hq hw hk hlt
          go_wp2
          (try rw [show decide (k < n + 1) = false by simp; omega])
          clear hkn1
          go_loopw [23, 160] (fun sv i wr => ∃ (k : Nat) (T : St) (Z : List UInt8), k ≤ p ∧ i = .int .i64 k ∧ sv = .string ⟨Z.toArray⟩ ∧ Z = T.wire ++ T.q ∧ T.closed = false ∧ Z.length ≤ 300 * k ∧ TwoAt w wr sa ta 400 S T) (fun _ i _ => p - (intOf i).toNat)
          case atStart =>
            obtain ⟨T, h1, h2, h3⟩ := HLP.out
            exact ⟨0, T, [], Nat.zero_le _, rfl, rfl, h2.symm, h1, by simp, h3⟩
          case round =>
            clear HLP
            obtain ⟨k, T, Z, hk, rfl, rfl, hZ, hcl, hZl, hT⟩ := hrel
            obtain ⟨p1, g1, f1, s1, vi1, vm1, vw1, p2, g2, f2, s2, vi2, vm2, vw2, hS, hT2, hd, hb⟩ := hT.get
            by_cases hlt : k < p
            · obtain ⟨z, hz⟩ : ∃ z, K[k]? = some z := ⟨_, List.getElem?_eq_getElem (by rw [HL2.out]; exact hlt)⟩
              obtain ⟨bd, od, rfl, hltd, hcd⟩ := HR2.out.2 (by simp [intsV]; have := HL2.out; omega)
              have hcz : wr.cell? ⟨bd, od + k, none⟩ = some (.int .i64 z) := (hb.cell (p := ⟨bd, od + k, none⟩) hltd).trans (hcd k _ (by simp [intsV, hz]))
              have HCL := Lib.hid hcl
              have HZ := Lib.hid hZ
              have hTl : T.wire.length + T.q.length = Z.length := by rw [hZ]; simp
              clear hcd hz hcl hZ
              by_cases hfit : T.q.length + n ≤ 400
              · -- it is sent
                obtain ⟨T5, hT5⟩ : ∃ T5 : St, T5 = { T with q := T.q ++ l } := ⟨_, rfl⟩
                have h5c : T5.closed = false := by rw [hT5]; exact HCL.out
                have h5z : T5.wire ++ T5.q = Z ++ l := by rw [hT5, HZ.out]; simp
                obtain ⟨g, hg⟩ : ∃ g, g = min z.toNat T5.q.length := ⟨_, rfl⟩
                obtain ⟨W, hW⟩ : ∃ W, T5.wire ++ T5.q.take g = W := ⟨_, rfl⟩
                obtain ⟨Q, hQ⟩ : ∃ Q, T5.q.drop g = Q := ⟨_, rfl⟩
                have hWQ : Z ++ l = W ++ Q := by rw [← h5z, ← hW, ← hQ, List.append_assoc, List.take_append_drop]
                have HG := Lib.hid hg
                have HWQ := Lib.hid hWQ
                have HT5 := Lib.hid hT5
                have H5C := Lib.hid h5c
                have HW := Lib.hid hW
                have HQ := Lib.hid hQ
                have hll := HL.out
                have hWl : W.length + Q.length = Z.length + n := by have := congrArg List.length hWQ; simp at this; omega
                have hll3 : l.length ≤ 300 := by omega
                have hZ3 : Z.length ≤ 18000 := by omega
                clear hg hWQ hT5 h5c hW hQ h5z hll
                have hcvl := fun w' hw' => conv_str (P := Tryd.prog) (c := c) Tryd.underlying42 Tryd.underlying5 Tryd.underlying9 (HR.out.keep (w' := w') hw')
                have HCV := Lib.hid hcvl
                clear hcvl
                go_wp2_with (first
                  | (go_at_call 28; refine (strmWire hT8).mono ?_; rintro e w9 ⟨v9, rfl, ho9, hb9⟩; obtain ⟨A9, c9, rfl, _, _, hrd9⟩ := own_rd ho9; have hcv9 := conv_str (P := Tryd.prog) (c := c9) Tryd.underlying42 Tryd.underlying5 Tryd.underlying9 hrd9; have HT9 := Lib.hid (HT8.out.keep hb9); clear hrd9 ho9; rw [HWQ.out])
                  | (go_at_call 27; go_loud (refine (strmGrant hT5' z g HG.out H5C.out).mono ?_); rw [HW.out, HQ.out]; rintro e w8 ⟨rfl, ht8⟩; have HT8 := Lib.hid (TwoAt.right hS5' hT5' hd5' hb5' ht8 rfl rfl rfl rfl); obtain ⟨p8, g8, f8, s8, vi8, vm8, vw8, p9, g9, f9, s9, vi9, vm9, vw9, hS8, hT8, hd8, hb8⟩ := HT8.out.get; clear ht8)
                  | (go_at_call 26; go_loud (refine (strmSend hT2 A n c l hnc (HR.out.keep hb) (fun h0 => hT2.older HR.out (by have := HL.out; simp [bytesV]; omega)) (by omega) HCL.out hfit).mono ?_); rw [← HT5.out]; rintro e w5 ⟨rfl, ht5⟩; have HT5' := Lib.hid (TwoAt.right hS hT2 hd hb ht5 rfl rfl rfl rfl); obtain ⟨p5, g5, f5, s5, vi5, vm5, vw5, p6, g6, f6, s6, vi6, vm6, vw6, hS5', hT5', hd5', hb5'⟩ := HT5'.out.get; have hcv5 := HCV.out w5 hb5'; clear ht5))
                go_roundw
                case rel => exact ⟨k + 1, { T5 with q := Q, wire := W }, W ++ Q, hlt, by go_num, rfl, rfl, H5C.out, by simp; omega, HT9.out⟩
                case measure => simp [intOf]; omega
              · -- it isn't
                have hTf : T.q.length ≤ 400 := hT2.ring.circ.fits
                obtain ⟨g, hg⟩ : ∃ g, g = min z.toNat T.q.length := ⟨_, rfl⟩
                obtain ⟨W, hW⟩ : ∃ W, T.wire ++ T.q.take g = W := ⟨_, rfl⟩
                obtain ⟨Q, hQ⟩ : ∃ Q, T.q.drop g = Q := ⟨_, rfl⟩
                have hWQ : Z = W ++ Q := by rw [HZ.out, ← hW, ← hQ, List.append_assoc, List.take_append_drop]
                have HG := Lib.hid hg
                have HWQ := Lib.hid hWQ
                have HW := Lib.hid hW
                have HQ := Lib.hid hQ
                have hWl : W.length + Q.length = Z.length := by have := congrArg List.length hWQ; simp at this; omega
                have hZ3 : Z.length ≤ 18000 := by omega
                clear hg hWQ hW hQ
                go_wp2_with (first
                  | (go_at_call 28; refine (strmWire hT8).mono ?_; rintro e w9 ⟨v9, rfl, ho9, hb9⟩; obtain ⟨A9, c9, rfl, _, _, hrd9⟩ := own_rd ho9; have hcv9 := conv_str (P := Tryd.prog) (c := c9) Tryd.underlying42 Tryd.underlying5 Tryd.underlying9 hrd9; have HT9 := Lib.hid (HT8.out.keep hb9); clear hrd9 ho9; rw [HWQ.out])
                  | (go_at_call 27; go_loud (refine (strmGrant hT5' z g HG.out HCL.out).mono ?_); rw [HW.out, HQ.out]; rintro e w8 ⟨rfl, ht8⟩; have HT8 := Lib.hid (TwoAt.right hS5' hT5' hd5' hb5' ht8 rfl rfl rfl rfl); obtain ⟨p8, g8, f8, s8, vi8, vm8, vw8, p9, g9, f9, s9, vi9, vm9, vw9, hS8, hT8, hd8, hb8⟩ := HT8.out.get; clear ht8)
                  | (go_at_call 26; go_loud (refine (strmSendErr hT2 ((hE.sub (J := [1, 13]) (by simp)).keep hb) A n c (by omega) 1 (.inr ⟨HCL.out, by show 400 - T.q.length < n; omega, rfl⟩)).mono ?_); rintro e w5 ⟨rfl, hb5⟩; unfold errV; have hT5' := hT2.keep hb5; have hS5' := hS.keep hb5; have hd5' := hd; have hb5' := hb.trans hb5))
                go_roundw
                case rel => exact ⟨k + 1, { T with q := Q, wire := W }, W ++ Q, hlt, by go_num, rfl, rfl, HCL.out, by simp; omega, HT9.out⟩
                case measure => simp [intOf]; omega
            · have hkp2 : p ≤ k := by omega
              clear hZ hT hS hT2 hd
              go_wp2
              go_ret
              exact ⟨rfl, hb⟩
end Go.Proofs.YtnbdmlpnoiljdaaDoor
