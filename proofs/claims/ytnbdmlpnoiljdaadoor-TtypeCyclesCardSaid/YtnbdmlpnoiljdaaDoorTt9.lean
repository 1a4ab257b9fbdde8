/- layer 13: the law of cycles and lists. -/
import Derived.Test.YtnbdmlpnoiljdaaDoorTt8
namespace Go.Proofs.YtnbdmlpnoiljdaaDoor
open Go Go.RowKit

theorem rd_take {w : World} {A : Option Addr} {n k : Nat} {l : List (List UInt8)} (h : Rd w 1 A n (strsV l)) (hk : k ≤ n) : Rd w 1 A k (strsV (l.take k)) := by
  have hl := h.len_strs
  refine ⟨by simp [strsV]; omega, fun hp => ?_⟩
  obtain ⟨b, o, e, hlt, hc⟩ := h.2 (by simp [strsV] at hp ⊢; omega)
  refine ⟨b, o, e, hlt, fun j u hu => hc j u ?_⟩
  have hj : j < k := by
    have := (List.getElem?_eq_some_iff.1 hu).1
    simp [strsV] at this; omega
  simpa [strsV, List.getElem?_take_of_lt hj] using hu

theorem gath_len (l : List (List UInt8)) (k : Nat) (hk : k ≤ l.length) : (gath (l.take k)).1.length ≤ k := by
  induction k with
  | zero => simp [gath]
  | succ k ih =>
    obtain ⟨s, hs⟩ : ∃ s, l[k]? = some s := ⟨_, List.getElem?_eq_getElem (by omega)⟩
    obtain ⟨⟨N, wh⟩, h⟩ : ∃ p, gath (l.take k) = p := ⟨_, rfl⟩
    have hi := ih (by omega)
    rw [h] at hi
    rw [gath_succ hs h]
    unfold takeP
    split
    · simp at hi ⊢; omega
    · split
      · split
        · simp at hi ⊢; omega
        · simp at hi ⊢; omega
      · simp at hi ⊢; omega

/-- The number of what is wrong with the types. -/
def badOf (T : List (List UInt8)) (k : Nat) : Nat := if (T.take k).all rightB then 0 else 6

theorem badOf_succ {T : List (List UInt8)} {k : Nat} {t : List UInt8} (h : T[k]? = some t) : badOf T (k + 1) = if rightB t then badOf T k else 6 := by
  have hk : k < T.length := (List.getElem?_eq_some_iff.1 h).1
  have e : T[k] = t := by rw [List.getElem?_eq_getElem hk] at h; exact Option.some.inj h
  unfold badOf
  rw [all_succ T k hk, e]
  cases rightB t <;> simp
/-- What stands at each round of answers. -/
def AnsLp (w wv : World) (ac c3 n a : Nat) (A3 : Option Addr) (T : List (List UInt8)) : Prop := CycAt wv ac A3 c3 (T ++ T.drop (n - 1)) (a % (n + 1)) ∧ Ext w wv
/-- What stands at each round of what is told. -/
def ToldLp (w wr : World) (B k : Nat) (U : List (List UInt8)) : Prop := ∃ A' c' N wh, gath (U.take k) = (N, wh) ∧ LstAt wr B B A' c' N wh ∧ Ext w wr ∧ B ≤ wr.heap.size

set_option maxHeartbeats 4000000 in
set_option maxRecDepth 20000 in
theorem lawCycles (E : Nat → Addr) (T U : List (List UInt8)) (z : Int) (A B : Option Addr) (n c m d : Nat) (w : World) (hE : Errs w E) (hnc : n ≤ c) (hcm : c ≤ maxLen) (hmd : m ≤ d) (hdm : d ≤ maxLen)
    (hr : Rd w 1 A n (strsV T)) (hl : ∀ t ∈ T, t.length ≤ maxLen) (hr' : Rd w 1 B m (strsV U)) (hl' : ∀ t ∈ U, t.length ≤ maxLen) :
    Calls Tryd.prog 3 #[.slice A n c, .slice B m d, .int .i64 z] w fun e w' => e = .returned (.bool true) ∧ Ext w w' := by
  have hlen : T.length = n := hr.len_strs
  have hlen' : U.length = m := hr'.len_strs
  have hR := Lib.hid hr
  have HL := Lib.hid hl
  have hR' := Lib.hid hr'
  have HL' := Lib.hid hl'
  obtain ⟨r, hrb⟩ : ∃ r, fewB T 20 60 = r := ⟨_, rfl⟩
  obtain ⟨r', hrb'⟩ : ∃ r', fewB U 30 60 = r' := ⟨_, rfl⟩
  have HR := Lib.hid hrb
  have HR' := Lib.hid hrb'
  have HN := Lib.hid hlen
  have HN' := Lib.hid hlen'
  clear hr hl hr' hl'
  cases r
  case false =>
    clear hrb hrb' hlen hlen'
    go_enter Tryd.func3, Tryd.ntmps3
    go_wp2_with (first
      | (go_at_call 10; refine (numFew T 20 60 (by omega) (by omega) A n c _ (hR.out.keep hbc) (by omega) HL.out _ HR.out).mono ?_; rintro e w2 ⟨rfl, rfl⟩)
      | (go_at_call 9; refine (alive13 E _ hE.five).mono ?_; rintro e w1 ⟨rfl, hbc⟩))
    go_ret
    exact ⟨rfl, hbc⟩
  cases r'
  case false =>
    clear hrb hrb' hlen hlen'
    go_enter Tryd.func3, Tryd.ntmps3
    go_wp2_with (first
      | (go_at_call 10; have hz := hfT; refine (numFew U 30 60 (by omega) (by omega) B m d _ (hR'.out.keep hbc) (by omega) HL'.out _ HR'.out).mono ?_; rintro e w3 ⟨rfl, rfl⟩)
      | (go_at_call 10; refine (numFew T 20 60 (by omega) (by omega) A n c _ (hR.out.keep hbc) (by omega) HL.out _ HR.out).mono ?_; rintro e w2 ⟨rfl, rfl⟩; have hfT : True := True.intro)
      | (go_at_call 9; refine (alive13 E _ hE.five).mono ?_; rintro e w1 ⟨rfl, hbc⟩))
    go_ret
    exact ⟨rfl, hbc⟩
  have hfew := hrb
  have hfew' := hrb'
  unfold fewB at hfew hfew'
  simp only [Bool.and_eq_true, decide_eq_true_eq, List.all_eq_true] at hfew hfew'
  obtain ⟨h20, h60⟩ := hfew
  obtain ⟨h30, h60'⟩ := hfew'
  have hn20 : n ≤ 20 := by omega
  have hm30 : m ≤ 30 := by omega
  have H60 := Lib.hid h60
  have H60' := Lib.hid h60'
  clear hrb h20 h60 hrb' h30 h60' hlen hlen'
  go_enter Tryd.func3, Tryd.ntmps3
  go_wp2_with (first
    | (go_at_call 10; have hz := hfT; refine (numFew U 30 60 (by omega) (by omega) B m d _ (hR'.out.keep hbc) (by omega) HL'.out _ HR'.out).mono ?_; rintro e w3 ⟨rfl, rfl⟩)
    | (go_at_call 10; refine (numFew T 20 60 (by omega) (by omega) A n c _ (hR.out.keep hbc) (by omega) HL.out _ HR.out).mono ?_; rintro e w2 ⟨rfl, rfl⟩; have hfT : True := True.intro)
    | (go_at_call 9; refine (alive13 E _ hE.five).mono ?_; rintro e w1 ⟨rfl, hbc⟩))
  obtain ⟨BB, hBB⟩ : ∃ BB, w1.heap.size = BB := ⟨_, rfl⟩
  have hsz1 := hbc.size
  have hlp : ToldLp w (w1.alloc (.cells #[.slice none 0 0, .bool false] 27)) BB 0 U :=
    ⟨none, 0, [], false, rfl, by rw [← hBB]; exact lstNil, hbc.trans (Ext.new1 _ _), by simp; omega⟩
  rw [hBB] at *
  have HLP := Lib.hid hlp
  clear hlp hbc hfT hz
  go_loopw [34] (fun v wr => ∃ k : Nat, k ≤ m ∧ v = .int .i64 k ∧ ToldLp w wr BB k U) (fun v _ => m - (intOf v).toNat)
  case atStart => exact ⟨0, Nat.zero_le _, rfl, HLP.out⟩
  case round =>
    obtain ⟨k, hk, rfl, hlp⟩ := hrel
    obtain ⟨A', c', N, wh, hg, hLs, hbc, hBs⟩ := hlp
    by_cases hlt : k < m
    · have hkT : k < U.length := by rw [HN'.out]; exact hlt
      obtain ⟨s, hs⟩ : ∃ s, U[k]? = some s := ⟨_, List.getElem?_eq_getElem hkT⟩
      obtain ⟨b, o, rfl, _, _⟩ := hR'.out.2 (by simp [strsV]; omega)
      have c1 := rd_at_strs (hR'.out.keep hbc) hs
      have hs60 := H60'.out s (List.mem_of_getElem? hs)
      obtain ⟨⟨N', wh'⟩, hst⟩ : ∃ p, takeP N wh s = p := ⟨_, rfl⟩
      have hg' := gath_succ hs hg
      rw [hst] at hg'
      have hNk : N.length ≤ k := by have := gath_len U k (by omega); rw [hg] at this; exact this
      have hNk' : N'.length ≤ k + 1 := by have := gath_len U (k + 1) (by omega); rw [hg'] at this; exact this
      have HG' := Lib.hid hg'
      have HST := Lib.hid hst
      have hkd : k + 1 ≤ d := by omega
      have hmd' : k + 1 ≤ m := by omega
      clear hg hst hg' hs hkT
      cases wh'
      all_goals
        go_wp2_with (first
          | (go_at_call 14; refine (numSame N' N' _ _ _ _ _ _ _ hrd9 (hrd5.keep hb9) (by omega) (by omega) rfl).mono ?_; rintro e w10 ⟨rfl, rfl⟩)
          | (go_at_call 15; refine (lstNames hLs5).mono ?_; rintro e w9 ⟨v9, rfl, hown9, hb9⟩; obtain ⟨A9, c9, rfl, _, _, hrd9⟩ := own_rd hown9; have hLs9 := hLs5.keep hb9; have hbc9 := hbc5.trans hb9; have hsz9 := hb9.size)
          | (go_at_call 13; refine (lstWhole hLs5).mono ?_; rintro e w7 ⟨rfl, rfl⟩)
          | (go_at_call 12; refine (refGather (U.take (k + 1)) (some ⟨b, o, none⟩) (k + 1) d _ (rd_take (hR'.out.keep hbc2) hmd') (by omega) (fun t ht => by have := H60'.out t (List.mem_of_mem_take ht); omega) N' _ HG'.out).mono ?_; rintro e w5 ⟨v5, rfl, hown5, hb5⟩; obtain ⟨A5, c5, rfl, _, _, hrd5⟩ := own_rd hown5; have hLs5 := hLs2.keep hb5; have hbc5 := hbc2.trans hb5; have hsz5 := hb5.size)
          | (go_at_call 11; refine (lstTake hLs s (by omega) (by omega) HST.out).mono ?_; rintro e w2 ⟨rfl, ⟨A2, c2, hLs2⟩, hb2⟩; have hbc2 : Ext w w2 := Below.trans hbc (hb2.mono hsz1); have hsz2 := hb2.size))
        go_roundw
        case rel => exact ⟨k + 1, hlt, by go_num, A2, c2, N', _, HG'.out, hLs9, hbc9, by omega⟩
        case measure => simp [intOf]; omega
    · obtain rfl : k = m := by omega
      have hn0 := fun w => run_eql_iface_nil (P := Tryd.prog) (w := w) 35 (by kernel_rfl) 145 (.pointer (some (E 0)))
      clear hg hLs hBs HLP hsz1 hBB hn0
      have hcase : (n < 1 ∨ 8 < n) ∨ ((1 ≤ n ∧ n ≤ 8) ∧ T.all rightB = false) ∨ ((1 ≤ n ∧ n ≤ 8) ∧ T.all rightB = true) := by
        cases T.all rightB
        · by_cases h : n < 1 ∨ 8 < n
          · exact .inl h
          · exact .inr (.inl ⟨by omega, rfl⟩)
        · by_cases h : n < 1 ∨ 8 < n
          · exact .inl h
          · exact .inr (.inr ⟨by omega, rfl⟩)
      rcases hcase with hbad | ⟨⟨h1, h8⟩, hra⟩ | ⟨⟨h1, h8⟩, hra⟩
      · have HB := Lib.hid hbad; clear hbad
        go_wp2_with (go_at_call 16; refine (cycNewErr E A n c _ (hE.keep hbc).five HB.out (by omega)).mono ?_; rintro e w3 ⟨rfl, hb3⟩; have hbc := hbc.trans hb3)
        go_loop [15, 74] (fun v i => ∃ k : Nat, k ≤ n ∧ i = .int .i64 k ∧ v = .int .i64 (badOf T k)) (fun _ i => n - (intOf i).toNat)
        case atStart => exact ⟨0, Nat.zero_le _, rfl, by simp [badOf]⟩
        case round =>
          obtain ⟨k, hk, rfl, rfl⟩ := hrel
          by_cases hlt : k < n
          · have hkT : k < T.length := by rw [HN.out]; exact hlt
            obtain ⟨t, ht⟩ : ∃ t, T[k]? = some t := ⟨_, List.getElem?_eq_getElem hkT⟩
            obtain ⟨b, o, rfl, _, _⟩ := hR.out.2 (by simp [strsV]; omega)
            have c1 := rd_at_strs (hR.out.keep hbc) ht
            have ht60 := H60.out t (List.mem_of_getElem? ht)
            have hsu := badOf_succ ht
            obtain ⟨rb, hrb⟩ : ∃ rb, rightB t = rb := ⟨_, rfl⟩
            rw [hrb] at hsu
            have HRB := Lib.hid hrb
            have HSU := Lib.hid hsu
            clear hsu hrb ht hkT
            cases rb
            all_goals
              go_wp2_with (go_at_call 17; refine (refRight t (by omega) _).mono ?_; rw [HRB.out]; rintro e w11 ⟨rfl, rfl⟩)
              go_round
              case rel => exact ⟨k + 1, hlt, by go_num, by rw [HSU.out]; simp⟩
              case measure => simp [intOf]; omega
          · obtain rfl : k = n := by omega
            have hbv := badOf T k
            have h15 : k < 1 ∨ (¬ k < 1 ∧ 8 < k) := by have := HB.out; omega
            rcases h15 with h | ⟨h0, h⟩
            all_goals
              go_wp2_with (go_at_call 18; refine (numErr E 0 _ (hE.keep hbc) (by omega)).mono ?_; rintro e w12 ⟨rfl, hb12⟩; have hbc12 := hbc.trans hb12)
              go_ret
              exact ⟨rfl, hbc12⟩
      · have HA := Lib.hid hra; clear hra
        go_wp2_with (go_at_call 16; have hnew := cycNew E T A c _ (hE.keep hbc).five (by rw [HN.out]; exact h1) (by rw [HN.out]; exact h8) (by rw [HN.out]; exact hnc) hcm (by rw [HN.out]; exact hR.out.keep hbc) (fun t ht => by have := H60.out t ht; omega) false HA.out; rw [HN.out] at hnew; refine hnew.mono ?_; clear hnew; simp only [Bool.false_eq_true, if_false]; rintro e w3 ⟨hb3, rfl⟩; have hbc := hbc.trans hb3)
        go_loop [15, 74] (fun v i => ∃ k : Nat, k ≤ n ∧ i = .int .i64 k ∧ v = .int .i64 (badOf T k)) (fun _ i => n - (intOf i).toNat)
        case atStart => exact ⟨0, Nat.zero_le _, rfl, by simp [badOf]⟩
        case round =>
          obtain ⟨k, hk, rfl, rfl⟩ := hrel
          by_cases hlt : k < n
          · have hkT : k < T.length := by rw [HN.out]; exact hlt
            obtain ⟨t, ht⟩ : ∃ t, T[k]? = some t := ⟨_, List.getElem?_eq_getElem hkT⟩
            obtain ⟨b, o, rfl, _, _⟩ := hR.out.2 (by simp [strsV]; omega)
            have c1 := rd_at_strs (hR.out.keep hbc) ht
            have ht60 := H60.out t (List.mem_of_getElem? ht)
            have hsu := badOf_succ ht
            obtain ⟨rb, hrb⟩ : ∃ rb, rightB t = rb := ⟨_, rfl⟩
            rw [hrb] at hsu
            have HRB := Lib.hid hrb
            have HSU := Lib.hid hsu
            clear hsu hrb ht hkT
            cases rb
            all_goals
              go_wp2_with (go_at_call 17; refine (refRight t (by omega) _).mono ?_; rw [HRB.out]; rintro e w11 ⟨rfl, rfl⟩)
              go_round
              case rel => exact ⟨k + 1, hlt, by go_num, by rw [HSU.out]; simp⟩
              case measure => simp [intOf]; omega
          · obtain rfl : k = n := by omega
            have hb6 : badOf T k = 6 := by unfold badOf; rw [List.take_of_length_le (by rw [HN.out]; exact Nat.le_refl _), HA.out]; rfl
            rw [hb6]
            clear hb6
            go_wp2_with (go_at_call 18; refine (numErr E 5 _ (hE.keep hbc) (by omega)).mono ?_; rintro e w12 ⟨rfl, hb12⟩; have hbc12 := hbc.trans hb12)
            go_ret
            exact ⟨rfl, hbc12⟩
      · have HA := Lib.hid hra; clear hra
        go_wp2_with (go_at_call 16; have hnew := cycNew E T A c _ (hE.keep hbc).five (by rw [HN.out]; exact h1) (by rw [HN.out]; exact h8) (by rw [HN.out]; exact hnc) hcm (by rw [HN.out]; exact hR.out.keep hbc) (fun t ht => by have := H60.out t ht; omega) true HA.out; rw [HN.out] at hnew; refine hnew.mono ?_; clear hnew; simp only [if_true]; rintro e w3 ⟨hb3, ac, rfl, A3, c3, hcyc, hac, hA3⟩; have hszr := hbc.size; have hbc := hbc.trans hb3)
        go_loop [15, 74] (fun v i => ∃ k : Nat, k ≤ n ∧ i = .int .i64 k ∧ v = .int .i64 (badOf T k)) (fun _ i => n - (intOf i).toNat)
        case atStart => exact ⟨0, Nat.zero_le _, rfl, by simp [badOf]⟩
        case round =>
          obtain ⟨k, hk, rfl, rfl⟩ := hrel
          by_cases hlt : k < n
          · have hkT : k < T.length := by rw [HN.out]; exact hlt
            obtain ⟨t, ht⟩ : ∃ t, T[k]? = some t := ⟨_, List.getElem?_eq_getElem hkT⟩
            obtain ⟨b, o, rfl, _, _⟩ := hR.out.2 (by simp [strsV]; omega)
            have c1 := rd_at_strs (hR.out.keep hbc) ht
            have ht60 := H60.out t (List.mem_of_getElem? ht)
            have hsu := badOf_succ ht
            obtain ⟨rb, hrb⟩ : ∃ rb, rightB t = rb := ⟨_, rfl⟩
            rw [hrb] at hsu
            have HRB := Lib.hid hrb
            have HSU := Lib.hid hsu
            clear hsu hrb ht hkT
            cases rb
            all_goals
              go_wp2_with (go_at_call 17; refine (refRight t (by omega) _).mono ?_; rw [HRB.out]; rintro e w11 ⟨rfl, rfl⟩)
              go_round
              case rel => exact ⟨k + 1, hlt, by go_num, by rw [HSU.out]; simp⟩
              case measure => simp [intOf]; omega
          · obtain rfl : k = n := by omega
            have hb0 : badOf T k = 0 := by unfold badOf; rw [List.take_of_length_le (by rw [HN.out]; exact Nat.le_refl _), HA.out]; rfl
            rw [hb0]
            clear hb0
            have hSl : (T ++ T.drop (k - 1)).length = k + 1 := by simp [HN.out]; omega
            have HSL := Lib.hid hSl
            have hacw : w.heap.size ≤ ac := Nat.le_trans hszr hac
            have hlp : AnsLp w w3 ac c3 k 0 A3 T := ⟨by rw [Nat.zero_mod]; exact hcyc, hbc⟩
            have HLP := Lib.hid hlp
            clear hlp hSl hcyc hA3 hac
            go_wp2_with (go_at_call 18; refine (numNil _).mono ?_; rintro e w12 ⟨rfl, rfl⟩)
            clear hbc
            go_loopw [18, 103] (fun q i wv => ∃ a b : Nat, b ≤ 24 ∧ a ≤ b ∧ i = .int .i64 b ∧ q = .int .i64 a ∧ AnsLp w wv ac c3 k a A3 T) (fun _ i _ => 24 - (intOf i).toNat)
            case atStart => exact ⟨0, 0, by omega, by omega, rfl, rfl, HLP.out⟩
            case round =>
              obtain ⟨a, b', hb24, hab, rfl, rfl, hC, hbc⟩ := hrel
              by_cases hlt : b' < 24
              · by_cases hz : (b' : Int) = z
                · subst hz
                  obtain ⟨s, hs⟩ : ∃ s, (T ++ T.drop (k - 1))[0 % (k + 1)]? = some s := ⟨_, List.getElem?_eq_getElem (by rw [HSL.out, Nat.zero_mod]; omega)⟩
                  have HS := Lib.hid hs
                  clear hs
                  go_wp2_with (first
                    | (go_at_call 21; refine (refAnswer T A k c 0 _ (hR.out.keep hbc6) h1 (by omega) (by omega) s HS.out).mono ?_; rintro e w7 ⟨rfl, rfl⟩)
                    | (go_at_call 20; refine (cycNext _ hC5 (1 % (k + 1)) (by rw [HSL.out]) s (by have := HS.out; rwa [Nat.zero_mod] at this)).mono ?_; rintro e w6 ⟨rfl, hC6, hc6⟩; have hbc6 : Ext w w6 := hc6.below hbc5 hbc5.size (fun x hx => by simp at hx; omega))
                    | (go_at_call 19; refine (cycReset _ hC).mono ?_; rintro e w5 ⟨⟨v5, rfl⟩, hC5, hc5⟩; have hbc5 : Ext w w5 := hc5.below hbc hbc.size (fun x hx => by simp at hx; omega)))
                  go_roundw
                  case rel => exact ⟨1, b' + 1, by omega, by omega, by go_num, by go_num, hC6, hbc6⟩
                  case measure => simp [intOf]; omega
                · obtain ⟨s, hs⟩ : ∃ s, (T ++ T.drop (k - 1))[a % (k + 1)]? = some s := ⟨_, List.getElem?_eq_getElem (by rw [HSL.out]; exact Nat.mod_lt _ (by omega))⟩
                  have HS := Lib.hid hs
                  have hzb : ((b' : Int) == z) = false := by simpa using hz
                  clear hs
                  go_wp2_with (first
                    | (go_at_call 21; refine (refAnswer T A k c a _ (hR.out.keep hbc6) h1 (by omega) (by omega) s HS.out).mono ?_; rintro e w7 ⟨rfl, rfl⟩)
                    | (go_at_call 20; refine (cycNext _ hC ((a + 1) % (k + 1)) (by rw [HSL.out, Nat.mod_add_mod]) s HS.out).mono ?_; rintro e w6 ⟨rfl, hC6, hc6⟩; have hbc6 : Ext w w6 := hc6.below hbc hbc.size (fun x hx => by simp at hx; omega)))
                  go_roundw
                  case rel => exact ⟨a + 1, b' + 1, by omega, by omega, by go_num, by go_num, hC6, hbc6⟩
                  case measure => simp [intOf]; omega
              · obtain rfl : b' = 24 := by omega
                go_wp2
                go_ret
                exact ⟨rfl, hbc⟩
end Go.Proofs.YtnbdmlpnoiljdaaDoor
