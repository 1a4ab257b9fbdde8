/- layer 13: the law of cycles that are gathered. -/
import Derived.Test.YtbipkbpcjkgohaaDoorTt6
namespace Go.Proofs.YtbipkbpcjkgohaaDoor
open Go Go.RowKit

theorem CycAt.below {w w' : World} {a : Nat} {A : Option Addr} {c : Nat} {T : List (List UInt8)} {k B : Nat} (h : CycAt w a A c T k) (hb : Below B w w') (ha : a < B) (hA : ∀ b o v, A = some ⟨b, o, v⟩ → b < B) : CycAt w' a A c T k :=
  ⟨h.blk.below hb ha, ⟨h.rd.1, fun hp => by
    obtain ⟨b, o, e, hlt, hc⟩ := h.rd.2 hp
    exact ⟨b, o, e, Nat.lt_of_lt_of_le hlt hb.size, fun j u hu => (hb.cell (p := ⟨b, o + j, none⟩) (hA _ _ _ e)).trans (hc j u hu)⟩⟩, h.lt, h.small, h.apart⟩

theorem takeStep (T : List (List UInt8)) (n : Nat) (hn : T.length = n) (h1 : 1 ≤ n) (h8 : n ≤ 8) (hall : T.all rightB = true) (hadj : ∀ i, i + 1 < n → T[i]? ≠ T[i + 1]?) (k : Nat) (hk : k ≤ n) (s : List UInt8) (hs : (T ++ T.drop (n - 1))[k]? = some s) :
    s ∈ T ∧ takeP (T.take k) (decide (k = 8 ∨ k = n + 1)) s = (T.take (k + 1), decide (k + 1 = 8 ∨ k + 1 = n + 1)) := by
  have hright : ∀ x ∈ T, rightB x = true := by simpa using hall
  by_cases hlt : k < n
  · rw [List.getElem?_append_left (by omega)] at hs
    have hm : s ∈ T := List.mem_of_getElem? hs
    have hw : decide (k = 8 ∨ k = n + 1) = false := by simp; omega
    have hgl : ¬ (T.take k).getLast? = some s := by
      intro he
      rw [List.getLast?_eq_getElem?, List.length_take, Nat.min_eq_left (by omega)] at he
      cases k with
      | zero => simp at he
      | succ j =>
        have hj := hadj j (by omega)
        rw [hs] at hj
        rw [Nat.add_sub_cancel, List.getElem?_take_of_lt (by omega)] at he
        exact hj he
    have hkl : k < T.length := by omega
    have hsk : T[k] = s := by rw [List.getElem?_eq_getElem hkl] at hs; exact Option.some.inj hs
    refine ⟨hm, ?_⟩
    rw [hw]
    simp only [takeP, hright s hm, hgl, if_true, if_false, Bool.false_eq_true]
    have e1 : (T.take k).length = k := by simp; omega
    have e2 : decide (k + 1 = 8) = decide (k + 1 = 8 ∨ k + 1 = n + 1) := by rw [decide_eq_decide]; omega
    rw [List.take_succ_eq_append_getElem hkl, hsk, e1, e2]
  · obtain rfl : k = n := by omega
    rw [List.getElem?_append_right (by omega), hn, Nat.sub_self, List.getElem?_drop, Nat.add_zero] at hs
    have hm : s ∈ T := List.mem_of_getElem? hs
    have ht1 : T.take k = T := List.take_of_length_le (by omega)
    have ht2 : T.take (k + 1) = T := List.take_of_length_le (by omega)
    refine ⟨hm, ?_⟩
    rw [ht1, ht2]
    by_cases hk8 : k = 8
    · subst hk8; simp [takeP]
    · have hw : decide (k = 8 ∨ k = k + 1) = false := by simp; omega
      have hgl : T.getLast? = some s := by rw [List.getLast?_eq_getElem?, hn]; exact hs
      rw [hw]
      simp [takeP, hright s hm, hgl]

/-- What stands at each round. -/
def GathLp (w wr : World) (B ac c3 n m : Nat) (A3 : Option Addr) (T : List (List UInt8)) : Prop :=
  CycAt wr ac A3 c3 (T ++ T.drop (n - 1)) (m % (n + 1)) ∧ (∃ A' c', LstAt wr B B A' c' (T.take m) (decide (m = 8 ∨ m = n + 1))) ∧ Ext w wr ∧ B ≤ wr.heap.size

set_option maxHeartbeats 4000000 in
set_option maxRecDepth 20000 in
theorem lawGathers (E : Nat → Addr) (T : List (List UInt8)) (A : Option Addr) (n c : Nat) (w : World) (hE : Five w E) (hnc : n ≤ c) (hcm : c ≤ maxLen) (hr : Rd w 1 A n (strsV T)) (hl : ∀ t ∈ T, t.length ≤ maxLen) :
    Calls Tryd.prog 6 #[.slice A n c] w fun e w' => e = .returned (.bool true) ∧ Ext w w' := by
  have hlen : T.length = n := hr.len_strs
  have hR := Lib.hid hr
  have HL := Lib.hid hl
  obtain ⟨r, hrb⟩ : ∃ r, fewB T 20 60 = r := ⟨_, rfl⟩
  have HR := Lib.hid hrb
  have HN := Lib.hid hlen
  clear hr hl
  cases r
  case false =>
    clear hrb hlen
    go_enter Tryd.func6, Tryd.ntmps6
    go_wp2_with (first
      | (go_at_call 31; refine (numFew T 20 60 (by omega) (by omega) A n c _ (hR.out.keep hbc) (by omega) HL.out _ HR.out).mono ?_; rintro e w2 ⟨rfl, rfl⟩)
      | (go_at_call 30; refine (alive13 E _ hE).mono ?_; rintro e w1 ⟨rfl, hbc⟩))
    go_ret
    exact ⟨rfl, hbc⟩
  have hfew := hrb
  unfold fewB at hfew
  simp only [Bool.and_eq_true, decide_eq_true_eq, List.all_eq_true] at hfew
  obtain ⟨h20, h60⟩ := hfew
  have hn20 : n ≤ 20 := by omega
  have H60 := Lib.hid h60
  clear hrb h20 h60
  have hn0 := fun w => run_eql_iface_nil (P := Tryd.prog) (w := w) 27 (by kernel_rfl) 165 (.pointer (some (E 0)))
  have hn5 := fun w => run_eql_iface_nil (P := Tryd.prog) (w := w) 27 (by kernel_rfl) 165 (.pointer (some (E 5)))
  by_cases hbad : n < 1 ∨ 8 < n
  · have HB := Lib.hid hbad
    clear hbad hlen
    go_enter Tryd.func6, Tryd.ntmps6
    go_wp2_with (first
      | (go_at_call 32; refine (cycNewErr E A n c _ (hE.keep hbc) HB.out (by omega)).mono ?_; unfold errV; rintro e w3 ⟨rfl, hb3⟩; have hbc := hbc.trans hb3)
      | (go_at_call 31; refine (numFew T 20 60 (by omega) (by omega) A n c _ (hR.out.keep hbc) (by omega) HL.out _ HR.out).mono ?_; rintro e w2 ⟨rfl, rfl⟩)
      | (go_at_call 30; refine (alive13 E _ hE).mono ?_; rintro e w1 ⟨rfl, hbc⟩))
    go_ret
    exact ⟨rfl, hbc⟩
  have h1 : 1 ≤ n := by omega
  have h8 : n ≤ 8 := by omega
  clear hbad
  obtain ⟨r, hra⟩ : ∃ r, T.all rightB = r := ⟨_, rfl⟩
  have HA := Lib.hid hra
  clear hra hlen
  cases r
  case false =>
    go_enter Tryd.func6, Tryd.ntmps6
    go_wp2_with (first
      | (go_at_call 32; have hnew := cycNew E T A c _ (hE.keep hbc) (by rw [HN.out]; exact h1) (by rw [HN.out]; exact h8) (by rw [HN.out]; exact hnc) hcm (by rw [HN.out]; exact hR.out.keep hbc) (fun t ht => by have := H60.out t ht; omega) false HA.out; rw [HN.out] at hnew; refine hnew.mono ?_; clear hnew; unfold errV; simp only [Bool.false_eq_true, if_false]; rintro e w3 ⟨hb3, rfl⟩; have hbc := hbc.trans hb3)
      | (go_at_call 31; refine (numFew T 20 60 (by omega) (by omega) A n c _ (hR.out.keep hbc) (by omega) HL.out _ HR.out).mono ?_; rintro e w2 ⟨rfl, rfl⟩)
      | (go_at_call 30; refine (alive13 E _ hE).mono ?_; rintro e w1 ⟨rfl, hbc⟩))
    go_ret
    exact ⟨rfl, hbc⟩
  go_enter Tryd.func6, Tryd.ntmps6
  go_wp2_with (first
    | (go_at_call 32; have hnew := cycNew E T A c _ (hE.keep hbc) (by rw [HN.out]; exact h1) (by rw [HN.out]; exact h8) (by rw [HN.out]; exact hnc) hcm (by rw [HN.out]; exact hR.out.keep hbc) (fun t ht => by have := H60.out t ht; omega) true HA.out; rw [HN.out] at hnew; refine hnew.mono ?_; clear hnew; simp only [if_true]; rintro e w3 ⟨hb3, ac, rfl, A3, c3, hcyc, hac, hA3⟩; have hsz1 := hbc.size; have hbc := hbc.trans hb3)
    | (go_at_call 31; refine (numFew T 20 60 (by omega) (by omega) A n c _ (hR.out.keep hbc) (by omega) HL.out _ HR.out).mono ?_; rintro e w2 ⟨rfl, rfl⟩)
    | (go_at_call 30; refine (alive13 E _ hE).mono ?_; rintro e w1 ⟨rfl, hbc⟩))
  clear hn0 hn5
  obtain ⟨b, o, rfl, _, _⟩ := hR.out.2 (by simp [strsV]; have := HN.out; omega)
  go_loop [30] (fun i => ∃ k : Nat, k ≤ n ∧ i = .int .i64 k ∧ Hid (∀ i, i + 1 < k → T[i]? ≠ T[i + 1]?)) (fun i => n - (intOf i).toNat)
  case atStart => exact ⟨0, Nat.zero_le _, rfl, Lib.hid fun i hi => by omega⟩
  case round =>
    obtain ⟨k, hk, rfl, hadj⟩ := hrel
    by_cases hlt : k < n
    · have hkT : k < T.length := by rw [HN.out]; exact hlt
      obtain ⟨t, ht⟩ : ∃ t, T[k]? = some t := ⟨_, List.getElem?_eq_getElem hkT⟩
      have c1 := rd_at_strs (hR.out.keep hbc) ht
      cases k with
      | zero =>
        rw [Nat.add_zero] at c1
        clear ht hkT
        go_wp2
        go_round
        case rel => exact ⟨1, by omega, by go_num, Lib.hid fun i hi => by omega⟩
        case measure => simp [intOf]; omega
      | succ j =>
        obtain ⟨t', ht'⟩ : ∃ t', T[j]? = some t' := ⟨_, List.getElem?_eq_getElem (by omega)⟩
        have c2 := rd_at_strs (hR.out.keep hbc) ht'
        obtain ⟨q, hq⟩ : ∃ q, (t' == t) = q := ⟨_, rfl⟩
        have HT := Lib.hid ht
        have HT' := Lib.hid ht'
        have HQ := Lib.hid hq
        clear ht ht' hkT
        cases q
        · go_wp2
          go_round
          case rel =>
            refine ⟨j + 2, by omega, by go_num, Lib.hid fun i hi => ?_⟩
            by_cases hij : i = j
            · subst hij
              rw [HT.out, HT'.out]
              have := HQ.out
              simpa using this
            · exact hadj.out i (by omega)
          case measure => simp [intOf]; omega
        · go_wp2
          go_ret
          exact ⟨rfl, hbc⟩
    · obtain rfl : k = n := by omega
      go_wp2
      obtain ⟨B, hB⟩ : ∃ B, w3.heap.size = B := ⟨_, rfl⟩
      have hsz3 := hbc.size
      have hacB : ac < B := by rw [← hB]; exact hcyc.blk.lt
      have hSl : (T ++ T.drop (k - 1)).length = k + 1 := by simp [HN.out]; omega
      have hA3u : ∀ b o v, A3 = some ⟨b, o, v⟩ → b < B := by
        intro b' o' v' e
        obtain ⟨b2, o2, e2, hlt2, _⟩ := hcyc.rd.2 (by simp [strsV, HN.out]; omega)
        rw [e] at e2
        cases e2
        omega
      have hlp : GathLp w (w3.alloc (.cells #[.slice none 0 0, .bool false] 58)) B ac c3 k 0 A3 T := by
        refine ⟨?_, ⟨none, 0, ?_⟩, hbc.trans (Ext.new1 _ _), by simp; omega⟩
        · rw [Nat.zero_mod]; exact hcyc.keep (Ext.new1 _ _)
        · rw [show decide (0 = 8 ∨ 0 = k + 1) = false by simp, ← hB]; exact lstNil
      rw [hB] at *
      have HLP := Lib.hid hlp
      have HSL := Lib.hid hSl
      have HA3 := Lib.hid hA3u
      clear hlp hcyc hA3 hSl hA3u hbc
      go_loopw [52] (fun v wr => ∃ m : Nat, m ≤ k + 1 ∧ v = .int .i64 m ∧ GathLp w wr B ac c3 k m A3 T) (fun v _ => k + 1 - (intOf v).toNat)
      case atStart => exact ⟨0, Nat.zero_le _, rfl, HLP.out⟩
      case round =>
        obtain ⟨m, hm, rfl, hlp⟩ := hrel
        obtain ⟨hCy, ⟨A', c', hLs⟩, hbc, hBs⟩ := hlp
        by_cases hmlt : m < k + 1
        · obtain ⟨s, hs⟩ : ∃ s, (T ++ T.drop (k - 1))[m]? = some s := ⟨_, List.getElem?_eq_getElem (by rw [HSL.out]; exact hmlt)⟩
          obtain ⟨hsT, htk⟩ := takeStep T k HN.out h1 h8 HA.out hadj.out m (by omega) s hs
          have hs60 := H60.out s hsT
          have hsr : rightB s = true := by have := HA.out; rw [List.all_eq_true] at this; exact this s hsT
          have hpp : parseP (0 :: s) = (s, false, 0) := by simp [parseP, hsr]
          rw [Nat.mod_eq_of_lt hmlt] at hCy
          have HS := Lib.hid hs
          have HSR := Lib.hid hsr
          have HPP := Lib.hid hpp
          have hnil : errN E 0 = .nilIface := rfl
          have hcase : (m = 8 ∧ k = 8) ∨ (¬ m = 8 ∧ k = 8) ∨ (¬ m = 8 ∧ ¬ k = 8) := by omega
          clear hs hsr hpp hsT
          rcases hcase with ⟨hm8, hk8⟩ | ⟨hm8, hk8⟩ | ⟨hm8, hk8⟩
          case' inl =>
            have hwh : decide (m = 8 ∨ m = k + 1) = true := by simp [hm8]
            have im : ((m : Int) == 8) = true := by simp [hm8]
            have ik : ((k : Int) == 8) = true := by simp [hk8]
          case' inr.inl =>
            have hwh : decide (m = 8 ∨ m = k + 1) = false := by simp; omega
            have im : ((m : Int) == 8) = false := by simp; omega
            have ik : ((k : Int) == 8) = true := by simp [hk8]
          case' inr.inr =>
            have hwh : decide (m = 8 ∨ m = k + 1) = false := by simp; omega
            have im : ((m : Int) == 8) = false := by simp; omega
            have ik : ((k : Int) == 8) = false := by simp; omega
          all_goals
            rw [hwh] at hLs htk
            obtain ⟨wh', hwh'⟩ : ∃ wh', decide (m + 1 = 8 ∨ m + 1 = k + 1) = wh' := ⟨_, rfl⟩
            rw [hwh'] at htk
            have HWH := Lib.hid hwh'
            have HTK := Lib.hid htk
            clear hwh hwh' htk hm8 hk8
            go_wp2_with (first
              | (go_at_call 37; refine (lstTake hLs s (by omega) (by simp; omega) HTK.out).mono ?_; rintro e w8 ⟨rfl, hLs8, hb8⟩; have hbc := Below.trans hbc (hb8.mono hsz3); have hCy := hCy.below hb8 hacB HA3.out; have hBs := Nat.le_trans hBs hb8.size)
              | (go_at_call 36; refine (lstWhole hLs).mono ?_; rintro e w7 ⟨rfl, rfl⟩)
              | (go_at_call 35; refine (ttParse E (0 :: s) s false 0 HPP.out (by simp; omega) A2 n2 c2 _ (hE.keep hbc) hn2 hrd2).mono ?_; rw [hnil]; rintro e w6 ⟨rfl, hb6⟩; have hbc := hbc.trans hb6; have hCy := hCy.keep hb6; have hLs := hLs.keep hb6; have hBs := Nat.le_trans hBs hb6.size)
              | (go_at_call 33; refine (ttBody E s (by omega) _ (hE.keep hbc)).mono ?_; rw [HSR.out]; simp only [if_true]; rintro e w5 ⟨v, rfl, ⟨A2, n2, c2, rfl, hn2, hc2, hrd2⟩, hb5⟩; have hbc := hbc.trans hb5; have hCy := hCy.keep hb5; have hLs := hLs.keep hb5; have hBs := Nat.le_trans hBs hb5.size)
              | (go_at_call 34; refine (cycNext _ hCy ((m + 1) % (k + 1)) (by rw [HSL.out]) s HS.out).mono ?_; rintro e w4 ⟨rfl, hCy4, hc4⟩; have hbc : Ext w w4 := hc4.below hbc (by omega) (fun x hx => by simp at hx; omega); have hLs := hLs.chg hc4 (fun x hx => by simp at hx; omega); have hBs := Nat.le_trans hBs hc4.size; have hCy := hCy4; clear hCy4))
            go_roundw
            case rel => exact ⟨m + 1, hmlt, by go_num, hCy, by rw [HWH.out]; exact hLs8, hbc, hBs⟩
            case measure => simp [intOf]; omega
        · obtain rfl : m = k + 1 := by omega
          have htT : T.take (k + 1) = T := List.take_of_length_le (by rw [HN.out]; omega)
          rw [htT, show decide (k + 1 = 8 ∨ k + 1 = k + 1) = true by simp] at hLs
          clear htT
          go_wp2_with (first
            | (go_at_call 38; refine (numSame T T _ _ _ _ _ _ _ hrd9 (hR.out.keep hbc9) (by have := HN.out; omega) (by omega) rfl).mono ?_; rintro e w10 ⟨rfl, rfl⟩)
            | (go_at_call 39; refine (lstNames hLs).mono ?_; rintro e w9 ⟨v9, rfl, hown9, hb9⟩; obtain ⟨A9, c9, rfl, _, _, hrd9⟩ := own_rd hown9; have hbc9 := hbc.trans hb9)
            | (go_at_call 36; refine (lstWhole hLs).mono ?_; rintro e w7 ⟨rfl, rfl⟩))
          go_ret
          exact ⟨rfl, hbc9⟩
end Go.Proofs.YtbipkbpcjkgohaaDoor
