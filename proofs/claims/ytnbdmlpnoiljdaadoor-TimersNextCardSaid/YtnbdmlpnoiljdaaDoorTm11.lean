/- The law TimersNext walked. -/
import Derived.Test.YtnbdmlpnoiljdaaDoorTm10
import Derived.Test.YtnbdmlpnoiljdaaDoorTacts
namespace Go.Proofs.YtnbdmlpnoiljdaaDoor
open Go Go.RowKit

theorem rd_rest {w : World} {b o n : Nat} {x : Value} {xs : List Value} (h : Rd w 1 (some ⟨b, o, none⟩) (n + 1) (x :: xs)) : Rd w 1 (some ⟨b, o + 1, none⟩) n xs := by
  obtain ⟨b', o', e, hb, hc⟩ := h.2 (by simp)
  cases e
  refine ⟨by have := h.1; simp at this; omega, fun _ => ⟨b, o + 1, rfl, hb, fun k v hk => ?_⟩⟩
  have := hc (k + 1) v (by simpa using hk)
  rwa [show o + 1 + k = o + (k + 1) by omega]

theorem nowSetI {w0 w : World} {B tb : Nat} {now : Int} {L : List (Int × Int)} {E : Nat → Addr} (h : TmNow w0 w B tb now L) (hi : InT now L) (key at' : Int) (hE : ErrC [0, 1] w E) :
    Calls Tryd.prog 38 #[.pointer (some ⟨tb, 0, none⟩), .int .i64 key, .int .i64 at'] w fun e w' => ∃ u L', e = .returned u ∧ InT now L' ∧ TmNow w0 w' B tb now L' := by
  obtain ⟨v, h1, h2⟩ := h
  refine (tmSet h1 key at' hE).mono ?_
  rintro e w' ⟨u, L', rfl, hs, ht⟩
  exact ⟨u, L', rfl, hs.inT hi, TmNow.turn h1 h2 ht⟩

theorem nowNextNo {w0 w : World} {B tb : Nat} {now : Int} (h : TmNow w0 w B tb now []) : Calls Tryd.prog 39 #[.pointer (some ⟨tb, 0, none⟩)] w fun e w' => e = .returned (.tuple #[.int .i64 0, .int .i64 0, .bool false]) ∧ TmNow w0 w' B tb now [] := by
  have hB := h.size
  obtain ⟨v, h1, h2⟩ := h
  refine (tmNextNo h1).mono ?_
  rintro e w' ⟨rfl, hx⟩
  exact ⟨rfl, TmNow.keep ⟨v, h1, h2⟩ hB hx⟩

theorem nowNext {w0 w : World} {B tb : Nat} {now a key : Int} {r : List (Int × Int)} (h : TmNow w0 w B tb now ((a, key) :: r)) : Calls Tryd.prog 39 #[.pointer (some ⟨tb, 0, none⟩)] w fun e w' => e = .returned (.tuple #[.int .i64 key, .int .i64 a, .bool true]) ∧ TmNow w0 w' B tb now ((a, key) :: r) := by
  have hB := h.size
  obtain ⟨v, h1, h2⟩ := h
  refine (tmNext h1).mono ?_
  rintro e w' ⟨rfl, hx⟩
  exact ⟨rfl, TmNow.keep ⟨v, h1, h2⟩ hB hx⟩

theorem nowTickNone {w0 w : World} {B tb : Nat} {now a key : Int} {r : List (Int × Int)} (h : TmNow w0 w B tb now ((a, key) :: r)) (n T : Int) (h0 : 0 ≤ now) (h9 : now ≤ 1099511627776) (hn0 : 0 ≤ n) (hn9 : n ≤ 1099511627776 - now) (hT : now + n = T) (hx : T < a) :
    Calls Tryd.prog 41 #[.pointer (some ⟨tb, 0, none⟩), .int .i64 n] w fun e w' => ∃ A c, e = .returned (.tuple #[.slice A 0 c, .nilIface]) ∧ TmNow w0 w' B tb T ((a, key) :: r) := by
  obtain ⟨v, h1, h2⟩ := h
  refine (tmTickNone h1 n T h0 h9 hn0 hn9 hT hx).mono ?_
  rintro e w' ⟨A, c, rfl, ht⟩
  exact ⟨A, c, rfl, TmNow.turn h1 h2 ht⟩

theorem nowTickSome {w0 w : World} {B tb : Nat} {now a key : Int} {r : List (Int × Int)} (h : TmNow w0 w B tb now ((a, key) :: r)) (n T : Int) (h0 : 0 ≤ now) (h9 : now ≤ 1099511627776) (hn0 : 0 ≤ n) (hn9 : n ≤ 1099511627776 - now) (hT : now + n = T) (hx : a ≤ T) :
    Calls Tryd.prog 41 #[.pointer (some ⟨tb, 0, none⟩), .int .i64 n] w fun e w' => ∃ b c m ks R, e = .returned (.tuple #[.slice (some ⟨b, 0, none⟩) (m + 1) c, .nilIface]) ∧ m + 1 ≤ c ∧ c ≤ maxLen ∧ m ≤ 16 ∧
      w'.cell? ⟨b, 0, none⟩ = some (.int .i64 key) ∧ Rd w' 1 (some ⟨b, 1, none⟩) m (intsV ks) ∧ key ∉ ks ∧ TmNow w0 w' B tb T R := by
  obtain ⟨v, h1, h2⟩ := h
  have hk := h1.keys
  refine (tmTickSome h1 n T h0 h9 hn0 hn9 hT hx).mono ?_
  rintro e w' ⟨b, c, D, R, rfl, hc1, hc2, hl, rfl, _, _, e0, hr, _, _, ht⟩
  refine ⟨b, c, D.length, D.map (·.2), R, rfl, hc1, hc2, hl, e0, rd_rest (x := .int .i64 key) (xs := intsV (D.map (·.2))) hr, ?_, TmNow.turn h1 h2 ht⟩
  intro hm
  simp at hk hm
  obtain ⟨y, hy⟩ := hm
  exact (hk.1.1 y) hy

set_option maxHeartbeats 1000000 in
set_option maxRecDepth 20000 in
theorem lawNext (E : Nat → Addr) (xs : List TAct) (A : Option Addr) (n c : Nat) (w : World) (HE : ErrC [0, 1] w E) (h : TActs w A n xs) :
    Calls Tryd.prog 7 #[.slice A n c] w fun e w' => e = .returned (.bool true) ∧ Below w.heap.size w w' := by
  have hl := h.1
  have HR := Lib.hid h
  have HL := Lib.hid hl
  have HEE := Lib.hid HE
  clear h hl HE
  go_enter Tryd.func7, Tryd.ntmps7
  by_cases hn40 : (40 : Int) < n
  · go_wp2_with (go_at_call 36; refine (tmAlive _).mono ?_; rintro e w1 ⟨rfl, hx1⟩)
    go_ret
    exact ⟨rfl, hx1⟩
  go_wp2_with (first
    | (go_at_call 37; go_loud (refine (aliveNew w1).mono ?_); rintro e w2 ⟨rfl, hT2⟩)
    | (go_at_call 36; refine (tmAlive _).mono ?_; rintro e w1 ⟨rfl, hx1⟩))
  go_loopw [23] (fun i wr => ∃ (k : Nat) (L : List (Int × Int)), k ≤ n ∧ i = .int .i64 k ∧ TmNow w1 wr w1.heap.size w1.heap.size 0 L ∧ InT 0 L) (fun i _ => n - (intOf i).toNat)
  case atStart => exact ⟨0, [], Nat.zero_le _, rfl, hT2, fun y hy => by simp at hy⟩
  case round =>
    clear hT2
    obtain ⟨k, L, hk, rfl, hT, hi⟩ := hrel
    have hb : Ext w1 wr := hT.ext
    by_cases hlt : k < n
    · obtain ⟨⟨kd, key, m⟩, hx⟩ : ∃ x, xs[k]? = some x := ⟨_, List.getElem?_eq_getElem (by have := HL.out; omega)⟩
      obtain ⟨b, o, rfl, h2, c3, c4, c5⟩ := (HR.out.keep (hx1.trans hb)).2 k _ hx
      have hT1 : TmNow w1 (wr.alloc (.cells #[.int .i64 kd, .int .i64 key, .int .i64 m] 72)) w1.heap.size w1.heap.size 0 L := hT.keep hT.size (Ext.new1 _ _)
      have hE1 := HEE.out.keep ((hx1.trans hb).trans (Ext.new1 wr (.cells #[.int .i64 kd, .int .i64 key, .int .i64 m] 72)))
      clear hT hb
      simp only at c3 c4 c5
      by_cases hk0 : kd = 0
      · subst hk0
        go_wp2_with (go_at_call 38; go_loud (refine (nowSetI hT1 hi key m hE1).mono ?_); rintro e w5 ⟨u, L', rfl, hi', hT'⟩)
        go_roundw
        case rel => exact ⟨k + 1, L', by omega, by go_num, hT', hi'⟩
        case measure => simp [intOf]; omega
      · go_wp2
        refine ⟨⟨k + 1, L, by omega, by go_num, hT1, hi⟩, by simp [intOf]; omega⟩
    · obtain rfl : k = n := by omega
      clear hb
      cases L with
      | nil =>
        go_wp2_with (first
          | (go_at_call 40; go_loud (refine (nowLen hT5).mono ?_); rintro e w6 ⟨rfl, rfl⟩)
          | (go_at_call 39; go_loud (refine (nowNextNo hT).mono ?_); rintro e w5 ⟨rfl, hT5⟩))
        go_ret
        exact ⟨rfl, hx1.trans hT5.ext⟩
      | cons x r =>
        obtain ⟨a, key⟩ := x
        obtain ⟨ha0, ha9⟩ := hi (a, key) (List.mem_cons_self)
        simp only at ha0 ha9
        clear hi
        by_cases ha : a = 0
        · subst ha
          go_wp2_with (go_at_call 39; go_loud (refine (nowNext hT).mono ?_); rintro e w5 ⟨rfl, hT5⟩)
          go_at_call 41
          refine (nowTickSome hT5 0 0 (by omega) (by omega) (by omega) (by omega) (by omega) (by omega)).mono ?_
          rintro e w6 ⟨b, c6, m, ks, R, rfl, hc6, hcm6, hm6, e6, hr6, hno6, hT6⟩
          clear hT hT5
          have hb6 := hx1.trans hT6.ext
          clear hT6 HR HL HEE
          by_cases hce : c6 = 1
          · subst hce
            obtain rfl : m = 0 := by omega
            have hr0 : Rd w6 1 (some ⟨b, 0, none⟩) 0 (intsV ks) := by
              have := hr6.len_ints
              obtain rfl := List.eq_nil_of_length_eq_zero this
              exact Rd.nil
            clear hr6 hc6 hcm6 hm6
            go_wp2_with (go_at_call 43; go_loud (refine (hasInts ks key _ 0 _ w6 hr0 (by omega) hno6).mono ?_); rintro e w7 ⟨rfl, hx7⟩)
            go_ret
            exact ⟨rfl, hb6.trans hx7⟩
          · have hm0 : decide ((0 : Int) < (m : Int) + 1) = true := decide_eq_true (by omega)
            have hc1 : 1 ≤ c6 := by omega
            go_wp2_with (go_at_call 43; go_loud (refine (hasInts ks key _ m _ w6 hr6 (by omega) hno6).mono ?_); rintro e w7 ⟨rfl, hx7⟩)
            go_ret
            exact ⟨rfl, hb6.trans hx7⟩
        · obtain ⟨m, rfl⟩ : ∃ m : Int, a = m + 1 := ⟨a - 1, by omega⟩
          have hm0 : 0 ≤ m := by omega
          have hm9 : m ≤ 1099511627775 := by omega
          have hm1 : (0 : Int) < m + 1 := by omega
          go_wp2_with (first
            | (go_at_call 42; go_loud (refine (nowNow hT7).mono ?_); rintro e w8 ⟨rfl, rfl⟩)
            | (go_at_call 41; go_loud (refine (nowTickSome hT6 1 (m + 1) (by omega) (by omega) (by omega) (by omega) (by omega) (by omega)).mono ?_); rintro e w7 ⟨b, c6, m', ks, R, rfl, hc6, hcm6, hm6, e6, hr6, hno6, hT7⟩)
            | (go_at_call 41; go_loud (refine (nowTickNone hT5 m m (by omega) (by omega) (by omega) (by omega) (by omega) (by omega)).mono ?_); rintro e w6 ⟨A6, c6, rfl, hT6⟩)
            | (go_at_call 39; go_loud (refine (nowNext hT).mono ?_); rintro e w5 ⟨rfl, hT5⟩))
          go_ret
          exact ⟨rfl, hx1.trans hT7.ext⟩
end Go.Proofs.YtnbdmlpnoiljdaaDoor
