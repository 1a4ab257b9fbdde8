/- layer 13: the references of cycles and lists. -/
import Derived.Test.YtnbdmlpnoiljdaaDoorTt7
namespace Go.Proofs.YtnbdmlpnoiljdaaDoor
open Go Go.RowKit

/-- What is gathered of all that is told. -/
def gath (l : List (List UInt8)) : List (List UInt8) × Bool := l.foldl (fun p s => takeP p.1 p.2 s) ([], false)
theorem gath_snoc (l : List (List UInt8)) (s : List UInt8) : gath (l ++ [s]) = takeP (gath l).1 (gath l).2 s := by simp [gath, List.foldl_append]
theorem gath_succ {l : List (List UInt8)} {k : Nat} {s : List UInt8} (hs : l[k]? = some s) {N : List (List UInt8)} {wh : Bool} (h : gath (l.take k) = (N, wh)) : gath (l.take (k + 1)) = takeP N wh s := by
  have hk : k < l.length := (List.getElem?_eq_some_iff.1 hs).1
  have e : l[k] = s := by rw [List.getElem?_eq_getElem hk] at hs; exact Option.some.inj hs
  rw [List.take_succ_eq_append_getElem hk, gath_snoc, h, e]
theorem stays (l : List (List UInt8)) : ∀ N, l.foldl (fun p s => takeP p.1 p.2 s) (N, true) = (N, true) := by
  induction l with
  | nil => intro N; rfl
  | cons s l ih => intro N; simp only [List.foldl_cons]; rw [show takeP N true s = (N, true) by simp [takeP]]; exact ih N
theorem gath_stays (l : List (List UInt8)) (k : Nat) (N : List (List UInt8)) (h : gath (l.take k) = (N, true)) : gath l = (N, true) := by
  have e : l = l.take k ++ l.drop k := (List.take_append_drop k l).symm
  unfold gath at *
  rw [e, List.foldl_append, h]
  exact stays _ N
theorem take_small {N N' : List (List UInt8)} {s : List UInt8} (h : takeP N false s = (N', false)) (hN : N.length ≤ 7) : N'.length ≤ 7 := by
  unfold takeP at h
  simp only [Bool.false_eq_true, if_false] at h
  split at h
  · split at h
    · simp at h
    · simp at h; obtain ⟨rfl, h8⟩ := h; simp; omega
  · simp at h; subst h; omega

set_option maxHeartbeats 400000 in
theorem cycReset {a c k : Nat} {A : Option Addr} {T : List (List UInt8)} (w : World) (h : CycAt w a A c T k) :
    Calls Tryd.prog 19 #[.pointer (some ⟨a, 0, none⟩)] w fun e w' => (∃ v, e = .returned v) ∧ CycAt w' a A c T 0 ∧ Chg [a] w w' := by
  have e1 : w.cell? ⟨a, 1, none⟩ = some (.int .i64 k) := h.blk.cell 1
  have f1 := h.blk.frozen 1
  go_enter Tryd.func19, Tryd.ntmps19
  go_wp2
  go_returns
  exact ⟨⟨_, rfl⟩, h.set_ 0 (by have := h.lt; omega), (Chg.refl _ _).setCell (by simp) _⟩

set_option maxHeartbeats 1000000 in
theorem refAnswer (T : List (List UInt8)) (A : Option Addr) (n c q : Nat) (w : World) (hr : Rd w 1 A n (strsV T)) (h1 : 1 ≤ n) (hn : n ≤ 1000) (hq : q ≤ 1000) (s : List UInt8) (hs : (T ++ T.drop (n - 1))[q % (n + 1)]? = some s) :
    Calls Tryd.prog 21 #[.slice A n c, .int .i64 q] w fun e w' => e = .returned (.string ⟨s.toArray⟩) ∧ w = w' := by
  have hlen := hr.len_strs
  obtain ⟨r, hrr⟩ : ∃ r, q % (n + 1) = r := ⟨_, rfl⟩
  rw [hrr] at hs
  have hrn : r < n + 1 := by rw [← hrr]; exact Nat.mod_lt _ (by omega)
  have hri : (q : Int) % ((n : Int) + 1) = r := by rw [← hrr]; simp
  obtain ⟨b, o, rfl, _, _⟩ := hr.2 (by simp [strsV]; omega)
  have hkey : ∃ m : Nat, m < n ∧ T[m]? = some s ∧ ((r = n ∧ m + 1 = n) ∨ (¬ r = n ∧ m = r)) := by
    by_cases h : r = n
    · rw [List.getElem?_append_right (by omega), List.getElem?_drop] at hs
      exact ⟨n - 1, by omega, by rw [← hs]; congr 1; omega, .inl ⟨h, by omega⟩⟩
    · rw [List.getElem?_append_left (by omega)] at hs
      exact ⟨r, by omega, hs, .inr ⟨h, rfl⟩⟩
  obtain ⟨m, hm, hTm, hc⟩ := hkey
  have hcell := rd_at_strs hr hTm
  clear hrr hs hr hlen hTm
  rcases hc with ⟨rfl, rfl⟩ | ⟨h, rfl⟩
  all_goals
    try simp only [Int.natCast_add, Int.cast_ofNat_Int] at hri
    go_enter Tryd.func21, Tryd.ntmps21
    go_wp2
    go_ret
    exact ⟨rfl, rfl⟩

set_option maxHeartbeats 2000000 in
set_option maxRecDepth 20000 in
theorem refGather (l : List (List UInt8)) (A : Option Addr) (n c : Nat) (w : World) (hr : Rd w 1 A n (strsV l)) (hn : n ≤ 1000) (hl : ∀ t ∈ l, t.length ≤ 100000) (N : List (List UInt8)) (wh : Bool) (hg : gath l = (N, wh)) :
    Calls Tryd.prog 12 #[.slice A n c] w fun e w' => ∃ v, e = .returned (.tuple #[v, .bool wh]) ∧ w'.ownsRow w.heap.size 9 1 v N.length (strsV N) ∧ Ext w w' := by
  have hlen := hr.len_strs
  have hR := Lib.hid hr
  have HL := Lib.hid hl
  have HN := Lib.hid hlen
  have HG := Lib.hid hg
  clear hr hl hlen hg
  go_enter Tryd.func12, Tryd.ntmps12
  go_wp2
  go_loopw [4, 10] (fun v i wr => ∃ (k m cc : Nat) (AA : Option Addr) (M : List (List UInt8)), k ≤ n ∧ i = .int .i64 k ∧ v = .slice AA m cc ∧ Hid (M.length = m) ∧ m ≤ 7 ∧ Hid (gath (l.take k) = (M, false)) ∧ wr.ownsRow w.heap.size 9 1 (.slice AA m cc) m (strsV M) ∧ Ext w wr) (fun _ i _ => n - (intOf i).toNat)
  case atStart => exact ⟨0, 0, 0, some ⟨w.heap.size, 0, none⟩, [], Nat.zero_le _, rfl, rfl, Lib.hid rfl, by omega, Lib.hid rfl, own_empty w _ 1, Ext.new1 _ _⟩
  case round =>
    obtain ⟨k, m, cc, AA, M, hk, rfl, rfl, hM, hm7, hgk, hown, hbr⟩ := hrel
    have hsz := hbr.size
    by_cases hlt : k < n
    · have hkT : k < l.length := by rw [HN.out]; exact hlt
      obtain ⟨s, hs⟩ : ∃ s, l[k]? = some s := ⟨_, List.getElem?_eq_getElem hkT⟩
      obtain ⟨b, o, rfl, _, _⟩ := hR.out.2 (by simp [strsV]; omega)
      have c1 := rd_at_strs (hR.out.keep hbr) hs
      have hsl : s.length ≤ 100000 := HL.out s (List.mem_of_getElem? hs)
      have hstep := gath_succ hs hgk.out
      obtain ⟨rb, hrb⟩ : ∃ rb, rightB s = rb := ⟨_, rfl⟩
      have HRB := Lib.hid hrb
      cases rb
      · have ht : takeP M false s = (M, false) := by simp [takeP, hrb]
        rw [ht] at hstep
        have HST := Lib.hid hstep
        clear hstep ht hrb hs hkT
        go_wp2_with (go_at_call 17; refine (refRight s hsl _).mono ?_; rw [HRB.out]; rintro e w1 ⟨rfl, rfl⟩)
        go_roundw
        case rel => exact ⟨k + 1, m, cc, AA, M, hlt, by go_num, rfl, hM, hm7, HST, hown, hbr⟩
        case measure => simp [intOf]; omega
      by_cases hlast : M.getLast? = some s
      · have ht : takeP M false s = (M, true) := by simp [takeP, hrb, hlast]
        rw [ht] at hstep
        have hall := gath_stays _ _ _ hstep
        rw [HG.out] at hall
        obtain ⟨rfl, rfl⟩ : N = M ∧ wh = true := by simpa using hall
        obtain ⟨j, rfl⟩ : ∃ j, m = j + 1 := by
          cases N with
          | nil => simp at hlast
          | cons x xs => exact ⟨xs.length, by rw [← hM.out]; rfl⟩
        have hNj : N[j]? = some s := by rw [List.getLast?_eq_getElem?, hM.out] at hlast; simpa using hlast
        obtain ⟨A1, c1', e, _, _, hrd⟩ := own_rd hown
        cases e
        obtain ⟨b2, o2, rfl, _, _⟩ := hrd.2 (by simp [strsV, hM.out])
        have c2 := rd_at_strs hrd hNj
        clear hstep hall ht hrb hs hkT hlast hNj hrd
        go_wp2_with (go_at_call 17; refine (refRight s hsl _).mono ?_; rw [HRB.out]; rintro e w1 ⟨rfl, rfl⟩)
        go_ret2
        exact ⟨_, rfl, by rw [hM.out]; exact hown, hbr⟩
      · have ht : takeP M false s = (M ++ [s], decide (m + 1 = 8)) := by simp only [takeP, hrb, if_true, Bool.false_eq_true, if_false, hlast, hM.out]
        rw [ht] at hstep
        have HST := Lib.hid hstep
        have hcase : m = 0 ∨ ∃ j t b o, m = j + 1 ∧ AA = some ⟨b, o, none⟩ ∧ wr.cell? ⟨b, o + j, none⟩ = some (.string ⟨t.toArray⟩) ∧ (t == s) = false := by
          cases m with
          | zero => exact .inl rfl
          | succ j =>
            refine .inr ?_
            obtain ⟨A1, c1', e, _, _, hrd⟩ := own_rd hown
            cases e
            obtain ⟨b2, o2, e2, _, _⟩ := hrd.2 (by simp [strsV, hM.out])
            obtain ⟨t, ht⟩ : ∃ t, M[j]? = some t := ⟨_, List.getElem?_eq_getElem (by rw [hM.out]; omega)⟩
            subst e2
            refine ⟨j, t, b2, o2, rfl, rfl, rd_at_strs hrd ht, beq_eq_false_iff_ne.2 fun hts => hlast ?_⟩
            rw [List.getLast?_eq_getElem?, hM.out]
            simpa [hts] using ht
        clear hstep ht hrb hs hkT hlast
        have hlen1 : (M ++ [s]).length = m + 1 := by simp [hM.out]
        have HL1 := Lib.hid hlen1
        clear hlen1
        have h7 : m = 7 ∨ m ≤ 6 := by omega
        rcases hcase with rfl | ⟨j, t, b2, o2, rfl, rfl, c2, hne⟩
        case' inr => rcases h7 with h7 | h7
        case' inr.inl => obtain rfl : j = 6 := (by omega)
        all_goals
          go_wp2_with (first
            | (at_builtin; refine wpList_app2 Tryd.elemS rfl (.tmp 31) (.tmp 33) rfl rfl (own_alloc hown _) (by simp; omega) rfl (rd_one wr (.string ⟨s.toArray⟩) 9) (one_one rfl) (by omega) (by unfold maxLen; omega) ?_; intro v2 w2 hown2 hg2 _ _; obtain ⟨A2, c2', rfl, _, _, _⟩ := own_rd hown2; have hb2 : Ext w w2 := hg2.below (hbr.trans (Ext.new1 _ _)) (Nat.le_refl _) (by simp; omega); have HO2 := Lib.hid hown2; clear hown2 hg2)
            | (go_at_call 17; refine (refRight s hsl _).mono ?_; rw [HRB.out]; rintro e w1 ⟨rfl, rfl⟩))
        · go_ret2
          have hall := gath_stays _ _ _ (show gath (l.take (k + 1)) = (M ++ [s], true) from HST.out)
          rw [HG.out] at hall
          obtain ⟨rfl, rfl⟩ : N = M ++ [s] ∧ wh = true := by simpa using hall
          exact ⟨_, rfl, by rw [HL1.out]; simpa [strsV, strV] using HO2.out, hb2⟩
        · go_roundw
          case rel => exact ⟨k + 1, j + 1 + 1, c2', A2, M ++ [s], hlt, by go_num, rfl, HL1, by omega, Lib.hid (HST.out.trans (by simp; omega)), by simpa [strsV, strV] using HO2.out, hb2⟩
          case measure => simp [intOf]; omega
        · go_roundw
          case rel => exact ⟨k + 1, 0 + 1, c2', A2, M ++ [s], hlt, by go_num, rfl, HL1, by omega, HST, by simpa [strsV, strV] using HO2.out, hb2⟩
          case measure => simp [intOf]; omega
    · obtain rfl : k = n := by omega
      have hall := hgk.out
      rw [List.take_of_length_le (by rw [HN.out]; exact Nat.le_refl _), HG.out] at hall
      obtain ⟨rfl, rfl⟩ : N = M ∧ wh = false := by simpa using hall
      clear hall
      go_wp2
      go_ret2
      exact ⟨_, rfl, by rw [hM.out]; exact hown, hbr⟩
end Go.Proofs.YtnbdmlpnoiljdaaDoor
