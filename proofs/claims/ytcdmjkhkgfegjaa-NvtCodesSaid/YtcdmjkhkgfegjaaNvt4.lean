/- layer 8: Encode and Decode of the program. -/
import Derived.Test.YtcdmjkhkgfegjaaNvt3
namespace Go.Proofs.Ytcdmjkhkgfegjaa
open Go.RowKit

/-- What byte i gives. -/
def piece (raw : Bool) (l : List UInt8) (i : Nat) : List UInt8 := if !raw && (l.getD i 0 == 13 && (i + 1 == l.length || l.getD (i + 1) 0 != 10)) then [l.getD i 0, 0] else [l.getD i 0]
/-- What Encode has gathered of the first k bytes. -/
def encTo (raw : Bool) (l : List UInt8) (k : Nat) : List UInt8 := (List.range k).flatMap (piece raw l)
theorem encTo_succ (raw : Bool) (l : List UInt8) (k : Nat) : encTo raw l (k + 1) = encTo raw l k ++ piece raw l k := by
  simp [encTo, List.range_succ]
theorem encTo_all1 (l : List UInt8) : encTo false l l.length = enc1 l := by
  induction l with
  | nil => rfl
  | cons c r ih =>
    have e : ∀ i, piece false (c :: r) (i + 1) = piece false r i := by intro i; simp [piece]
    rw [enc1, ← ih]
    unfold encTo
    rw [List.length_cons, List.range_succ_eq_map, List.flatMap_cons, List.flatMap_map]
    have e0 : piece false (c :: r) 0 = (if c = 13 ∧ r.head? ≠ some 10 then [c, 0] else [c]) := by
      cases r <;> simp [piece]
    rw [e0]
    congr 1
    exact congrArg (fun f => (List.range r.length).flatMap f) (funext e)
theorem encTo_all (raw : Bool) (l : List UInt8) : encTo raw l l.length = enc raw l := by
  cases raw
  · exact encTo_all1 l
  · have e : ∀ k, k ≤ l.length → encTo true l k = l.take k := by
      intro k hk
      induction k with
      | zero => rfl
      | succ k ih =>
        rw [encTo_succ, ih (by omega), List.take_succ_eq_append_getElem (by omega)]
        simp [piece, show k < l.length by omega]
    rw [e _ (Nat.le_refl _)]; simp [enc]
theorem piece_len (raw : Bool) (l : List UInt8) (i : Nat) : (piece raw l i).length ≤ 2 := by unfold piece; split <;> simp
theorem encTo_len (raw : Bool) (l : List UInt8) (k : Nat) : (encTo raw l k).length ≤ 2 * k := by
  induction k with
  | zero => simp [encTo]
  | succ k ih => have := piece_len raw l k; rw [encTo_succ, List.length_append]; omega

theorem piece_raw {raw : Bool} {l : List UInt8} {k : Nat} (hk : k < l.length) (h : raw = true) : piece raw l k = [l[k]] := by simp [piece, h, hk]
theorem piece_not {raw : Bool} {l : List UInt8} {k : Nat} (hk : k < l.length) (h : ¬ l[k] = 13) : piece raw l k = [l[k]] := by simp [piece, h, hk]
theorem piece_lf {raw : Bool} {l : List UInt8} {k : Nat} (hk : k + 1 < l.length) (h : ¬ l[k + 1] ≠ 10) : piece raw l k = [l[k]] := by
  have : l[k + 1] = 10 := by simpa using h
  simp [piece, this, hk, show k < l.length by omega]; omega
theorem piece_cr {raw : Bool} {l : List UInt8} {k : Nat} (hk : k < l.length) (hr : ¬ raw = true) (h : l[k] = 13) (h2 : ∀ h1 : k + 1 < l.length, l[k + 1] ≠ 10) : piece raw l k = [l[k], 0] := by
  have hr : raw = false := by simpa using hr
  by_cases h1 : k + 1 < l.length
  · have := h2 h1; simp [piece, hr, h, hk, h1, this]
  · simp [piece, hr, h, hk]; omega

set_option maxHeartbeats 1000000 in
theorem nvtEncode (l : List UInt8) (raw : Bool) (A : Option Addr) (n c : Nat) (w : World) (hn : n ≤ 1000000) (hr : Rd w 1 A n (bytesV l)) :
    Calls Try.prog 8 #[.slice A n c, .bool raw] w fun e w' => ∃ v, e = .returned v ∧ w'.ownsRow w.heap.size 5 1 v (enc raw l).length (bytesV (enc raw l)) ∧ Below w.heap.size w w' := by
  have hl := hr.len_bytes
  obtain ⟨r0, hr0⟩ : ∃ r0, r0 = raw := ⟨_, rfl⟩
  rw [show enc raw l = enc r0 l by rw [hr0]]
  have HR0 := Lib.hid hr0
  clear hr0
  cases raw
  all_goals
    go_enter Try.func8, Try.ntmps8
    go_wp2
    go_loopw [5, 10] (fun v i wr => ∃ k : Nat, k ≤ n ∧ i = .int .i64 k ∧ wr.ownsRow w.heap.size 5 1 v (encTo r0 l k).length (bytesV (encTo r0 l k)) ∧ Below w.heap.size w wr)
      (fun _ i _ => n - (intOf i).toNat)
    case atStart => exact ⟨0, Nat.zero_le _, rfl, World.ownsRow_nil _ _ _ _, Below.refl _ _⟩
    case round =>
      obtain ⟨k, hk, rfl, hown, hb⟩ := hrel
      by_cases hlt : k < n
      · obtain ⟨b, o, rfl, HC⟩ := hr.bytes (by omega)
        have hD := encTo_len r0 l k
        have hs := hb.size
        have hkl : k < l.length := by omega
        have hc1 := HC.out wr hb k hkl
        have DS := Lib.hid (encTo_succ r0 l k)
        have HL := Lib.hid hl
        have HR := Lib.hid hr
        clear hr hl
        by_cases h1 : k + 1 < n
        · have hkl1 : k + 1 < l.length := by have := HL.out; omega
          go_wp2_with (first | (at_builtin; refine wpList_app Try.elemB rfl (.tmp 15) (.tmp 17) rfl (v := u5) rfl (hown.alloc _) (by simp; omega) rfl (rd_one _ _ _) (one_one rfl) (by omega) (by unfold maxLen; omega) ?_; intro v1 w1 hown1 hg1 hk1; have hb1 := hg1.all hb hs; have hs1 := hb1.size; have hc2 := HC.out w1 hb1 (k + 1) hkl1; clear hg1 hk1 hown hc1) | (at_builtin; refine wpList_app Try.elemB rfl (.tmp 40) (.tmp 41) rfl (v := v1) rfl (hown1.alloc _) (by simp; omega) rfl (rd_one _ _ _) (one_one rfl) (by omega) (by unfold maxLen; omega) ?_; intro v2 w2 hown2 hg2 hk2; have hb2 := hg2.all hb1 hs1; clear hg2 hk2 hown1))
          all_goals
            have H1 := HL.out
            go_roundw
            case rel =>
              refine ⟨k + 1, by omega, by go_num, ?_, by assumption⟩
              rw [DS.out]
              first
                | (rw [piece_raw hkl HR0.out]; simpa [bytesV, U8] using hown1)
                | (rw [piece_not hkl ‹_›]; simpa [bytesV, U8] using hown1)
                | (rw [piece_lf hkl1 (by simp_all)]; simpa [bytesV, U8] using hown1)
                | (rw [piece_cr hkl (by rw [HR0.out]; simp) ‹_› (by intro h2; first | omega | (have h3 := ‹_ ∨ _›; rcases h3 with h3 | h3 <;> simp_all))]; simpa [bytesV, U8] using hown2)
            case measure => simp [intOf]; omega
        · go_wp2_with (first | (at_builtin; refine wpList_app Try.elemB rfl (.tmp 15) (.tmp 17) rfl (v := u5) rfl (hown.alloc _) (by simp; omega) rfl (rd_one _ _ _) (one_one rfl) (by omega) (by unfold maxLen; omega) ?_; intro v1 w1 hown1 hg1 hk1; have hb1 := hg1.all hb hs; have hs1 := hb1.size; clear hg1 hk1 hown hc1) | (at_builtin; refine wpList_app Try.elemB rfl (.tmp 40) (.tmp 41) rfl (v := v1) rfl (hown1.alloc _) (by simp; omega) rfl (rd_one _ _ _) (one_one rfl) (by omega) (by unfold maxLen; omega) ?_; intro v2 w2 hown2 hg2 hk2; have hb2 := hg2.all hb1 hs1; clear hg2 hk2 hown1))
          all_goals
            have H1 := HL.out
            go_roundw
            case rel =>
              refine ⟨k + 1, by omega, by go_num, ?_, by assumption⟩
              rw [DS.out]
              first
                | (rw [piece_raw hkl HR0.out]; simpa [bytesV, U8] using hown1)
                | (rw [piece_not hkl ‹_›]; simpa [bytesV, U8] using hown1)
                | (rw [piece_lf hkl1 (by simp_all)]; simpa [bytesV, U8] using hown1)
                | (rw [piece_cr hkl (by rw [HR0.out]; simp) ‹_› (by intro h2; first | omega | (have h3 := ‹_ ∨ _›; rcases h3 with h3 | h3 <;> simp_all))]; simpa [bytesV, U8] using hown2)
            case measure => simp [intOf]; omega
      · obtain rfl : k = n := by omega
        go_wp2
        go_ret
        exact ⟨_, rfl, by rw [← encTo_all, hl]; exact hown, hb⟩
end Go.Proofs.Ytcdmjkhkgfegjaa
