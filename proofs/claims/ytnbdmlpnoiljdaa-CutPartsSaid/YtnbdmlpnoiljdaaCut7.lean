/- layer 39: lists of events compared; Same. -/
import Derived.Test.YtnbdmlpnoiljdaaCut6
namespace Go.Proofs.Ytnbdmlpnoiljdaa
open Go Go.RowKit

theorem atom_part {e : Ev} (h : rightE e = true) (hs : ¬ sizeE e < 0) (i : Nat) (hi : (i : Int) < sizeE e) : isAtom (partE e i (i + 1)) := by
  rcases size_kind hs with hk | hk
  · obtain ⟨_, _, h3⟩ := right1 h hk
    have hil : i < e.b.length := by unfold sizeE at hi; rw [if_pos hk] at hi; omega
    left
    unfold partE
    rw [if_neg (by omega)]
    refine ⟨rfl, rfl, ?_, marks_one h3 i⟩
    simp; omega
  · right; left
    unfold partE
    rw [if_pos hk]
    exact ⟨rfl, by show ((i + 1 : Nat) : Int) - i = 1; omega, rfl, rfl⟩
theorem atoms_atom {l : List Ev} : ∀ x ∈ atoms l, isAtom x := by
  intro x hx
  obtain ⟨e, _, he⟩ := List.mem_flatMap.1 hx
  unfold atomsE at he
  split at he
  · next hr =>
    split at he
    · next hs =>
      simp at he; subst he
      right; right
      have hk1 : x.kind ≠ 1 := fun h => by unfold sizeE at hs; rw [if_pos h] at hs; omega
      exact ⟨hs, (rightO hr hk1).1, (rightO hr hk1).2, hr⟩
    · next hs =>
      obtain ⟨i, hi, rfl⟩ := List.mem_map.1 he
      exact atom_part hr hs i (by have := List.mem_range.1 hi; omega)
  · simp at he
theorem atom_small {x : Ev} (h : isAtom x) : x.m.length ≤ 1 := by
  rcases h with ⟨_, _, _, h | h⟩ | ⟨_, _, _, h⟩ | ⟨_, _, h, _⟩ <;> rw [h] <;> simp
theorem atom_bytes {x : Ev} (h : isAtom x) : x.b.length ≤ 1 := by
  rcases h with ⟨_, _, h, _⟩ | ⟨_, _, h, _⟩ | ⟨_, h, _⟩ <;> simp [h]

set_option maxHeartbeats 2000000 in
set_option maxRecDepth 20000 in
theorem evsEqual (xs ys : List Ev) (A B : Option Addr) (n c m d : Nat) (w : World) (hx : EvsRd w [] A n xs) (hy : EvsRd w [] B m ys) (hsx : ∀ e ∈ xs, e.m.length ≤ 1000000) (hsy : ∀ e ∈ ys, e.m.length ≤ 1000000) (hn : n ≤ 9223372036854775807) (hm : m ≤ 9223372036854775807) (hnc : n ≤ c) (hmd : m ≤ d) (r : Bool) (hr : decide (xs = ys) = r) :
    Calls Try.prog 29 #[.slice A n c, .slice B m d, .func (.func 19) #[] #[]] w fun e w' => e = .returned (.bool r) ∧ Ext w w' := by
  have hln : xs.length = n := by obtain ⟨vs, _, h, _⟩ := hx; exact h
  have hkn : ys.length = m := by obtain ⟨vs, _, h, _⟩ := hy; exact h
  have HR := Lib.hid hr
  have HX := Lib.hid hx
  have HY := Lib.hid hy
  have HLN := Lib.hid hln
  have HKN := Lib.hid hkn
  have HSX := Lib.hid hsx
  have HSY := Lib.hid hsy
  clear hr hx hy hln hkn hsx hsy
  by_cases hnm : n = m
  · subst hnm
    go_enter Try.func29, Try.ntmps29
    go_wp2
    go_loopw [17] (fun i wr => ∃ j : Nat, j ≤ n ∧ i = .int .i64 j ∧ Ext w wr ∧ xs.take j = ys.take j) (fun i _ => n - (intOf i).toNat)
    case atStart => exact ⟨0, Nat.zero_le _, rfl, Ext.refl _, by simp⟩
    case round =>
      obtain ⟨j, hj, rfl, hx, ht⟩ := hrel
      by_cases hlt : j < n
      · obtain ⟨x, hxl⟩ : ∃ x, xs[j]? = some x := ⟨_, List.getElem?_eq_getElem (by rw [HLN.out]; exact hlt)⟩
        obtain ⟨y, hyk⟩ : ∃ y, ys[j]? = some y := ⟨_, List.getElem?_eq_getElem (by rw [HKN.out]; exact hlt)⟩
        obtain ⟨b1, o1, v1, m1, rfl, hb1, p0, p1, p2, p3, he1⟩ := (HX.out.keep hx).get hxl
        obtain ⟨b2, o2, v2, m2, rfl, hb2, q0, q1, q2, q3, he2⟩ := (HY.out.keep hx).get hyk
        obtain ⟨A1, c1, B1, d1, rfl, rfl, _, _, _, _, _, _⟩ := he1.open
        obtain ⟨A2, c2, B2, d2, rfl, rfl, _, _, _, _, _, _⟩ := he2.open
        have HXL := Lib.hid hxl
        have HYK := Lib.hid hyk
        have HT := Lib.hid ht
        have hsx := HSX.out x (List.mem_of_getElem? hxl)
        have hsy := HSY.out y (List.mem_of_getElem? hyk)
        have P0 : wr.cell? ⟨b1, o1 + j * 4, none⟩ = some (.int .i64 x.kind) := p0
        have P1 : wr.cell? ⟨b1, o1 + j * 4 + 1, none⟩ = some (.int .i64 x.n) := p1
        have P2 : wr.cell? ⟨b1, o1 + j * 4 + 2, none⟩ = some (.slice A1 x.b.length c1) := p2
        have P3 : wr.cell? ⟨b1, o1 + j * 4 + 3, none⟩ = some (.slice B1 x.m.length d1) := p3
        have Q0 : wr.cell? ⟨b2, o2 + j * 4, none⟩ = some (.int .i64 y.kind) := q0
        have Q1 : wr.cell? ⟨b2, o2 + j * 4 + 1, none⟩ = some (.int .i64 y.n) := q1
        have Q2 : wr.cell? ⟨b2, o2 + j * 4 + 2, none⟩ = some (.slice A2 y.b.length c2) := q2
        have Q3 : wr.cell? ⟨b2, o2 + j * 4 + 3, none⟩ = some (.slice B2 y.m.length d2) := q3
        have hxx := (Ext.new1 wr (.cells #[.int .i64 x.kind, .int .i64 x.n, .slice A1 x.b.length c1, .slice B1 x.m.length d1] 43)).trans (Ext.new1 _ (.cells #[.int .i64 y.kind, .int .i64 y.n, .slice A2 y.b.length c2, .slice B2 y.m.length d2] 43))
        have HE1 := Lib.hid (he1.keep hxx)
        have HE2 := Lib.hid (he2.keep hxx)
        obtain ⟨s, hs⟩ : ∃ s, decide (x = y) = s := ⟨_, rfl⟩
        have HS := Lib.hid hs
        clear hxl hyk ht p0 p1 p2 p3 q0 q1 q2 q3 he1 he2 hs
        have fd1 : b1 < (wr.alloc (.cells #[.int .i64 x.kind, .int .i64 x.n, .slice A1 x.b.length c1, .slice B1 x.m.length d1] 43)).heap.size := by simp; omega
        cases s
        · have hf : r = false := by
            rw [← HR.out, decide_eq_false]
            intro e
            have h1 := HXL.out
            rw [e, HYK.out] at h1
            have h2 := HS.out
            rw [(Option.some.inj h1).symm] at h2
            simp at h2
          have HF := Lib.hid hf
          clear hf
          go_wp2_with (go_at_call 19; refine (rawSame HE1.out HE2.out hsx hsy false HS.out).mono ?_; rintro e w2 ⟨rfl, hb2'⟩)
          go_ret
          exact ⟨by rw [HF.out]; simp, hx.trans (hxx.trans hb2')⟩
        · have hxy : x = y := by simpa using HS.out
          have ht2 : xs.take (j + 1) = ys.take (j + 1) := by rw [List.take_add_one, List.take_add_one, HT.out, HXL.out, HYK.out, hxy]
          have HT2 := Lib.hid ht2
          clear ht2 hxy
          go_wp2_with (go_at_call 19; refine (rawSame HE1.out HE2.out hsx hsy true HS.out).mono ?_; rintro e w2 ⟨rfl, hb2'⟩)
          go_roundw
          case rel => exact ⟨j + 1, hlt, by go_num, hx.trans (hxx.trans hb2'), HT2.out⟩
          case measure => simp [intOf]; omega
      · obtain rfl : j = n := by omega
        have ht' : r = true := by
          rw [← HR.out, decide_eq_true]
          rw [List.take_of_length_le (by rw [HLN.out]; exact Nat.le_refl _), List.take_of_length_le (by rw [HKN.out]; exact Nat.le_refl _)] at ht
          exact ht
        have HT := Lib.hid ht'
        clear ht' ht
        go_wp2
        go_ret
        exact ⟨by rw [HT.out]; simp, hx⟩
  · have hf : r = false := by
      rw [← HR.out, decide_eq_false]
      intro e; rw [e] at HLN; have := HLN.out; have := HKN.out; omega
    have hb : ((n : Int) == (m : Int)) = false := by simp; omega
    have HF := Lib.hid hf
    clear hf hnm
    go_enter Try.func29, Try.ntmps29
    go_wp2
    go_ret
    exact ⟨by rw [HF.out]; simp, Ext.refl _⟩

set_option maxHeartbeats 400000 in
theorem cutSame {w : World} {es fs : List Ev} {A B : Option Addr} {n c m d : Nat} (hr : EvsRd w [] A n es) (hs : EvsRd w [] B m fs) (hn : n ≤ 100000) (hnc : n ≤ c) (hm : m ≤ 100000) (hmd : m ≤ d) (r : Bool) (hrb : decide (atoms es = atoms fs) = r) :
    Calls Try.prog 18 #[.slice A n c, .slice B m d] w fun e w' => e = .returned (.bool r) ∧ Ext w w' := by
  have HRB := Lib.hid hrb
  clear hrb
  go_enter Try.func18, Try.ntmps18
  go_wp2_with (first
    | (go_at_call 29; refine (evsEqual (atoms es) (atoms fs) A1 A2 _ c1 _ c2 _ (hE1.keep hb2) hE2 (fun e he => by have := atom_small (atoms_atom e he); omega) (fun e he => by have := atom_small (atoms_atom e he); omega) (by unfold maxLen at hm1; omega) (by unfold maxLen at hm2; omega) hc1 hc2 r HRB.out).mono ?_; rintro e w3 ⟨rfl, hb3⟩)
    | (go_at_call 9; have hz := hE1; refine (cutAtoms (hs.keep hb1) hm hmd).mono ?_; rintro e w2 ⟨v2, rfl, ho2, hb2⟩; obtain ⟨A2, c2, rfl, hc2, hm2, hE2⟩ := ho2.rd)
    | (go_at_call 9; refine (cutAtoms hr hn hnc).mono ?_; rintro e w1 ⟨v1, rfl, ho1, hb1⟩; obtain ⟨A1, c1, rfl, hc1, hm1, hE1⟩ := ho1.rd))
  go_ret
  exact ⟨rfl, hb1.trans (hb2.trans hb3)⟩
end Go.Proofs.Ytnbdmlpnoiljdaa
