/- The law StreamGrants walked. -/
import Derived.Test.YtnbdmlpnoiljdaaDoorStrm7
import Derived.Test.YtnbdmlpnoiljdaaDoorDag
namespace Go.Proofs.YtnbdmlpnoiljdaaDoor
open Go Go.RowKit

theorem OwnO.mono {w : World} {base base' : Nat} {e : TypeId} {v : Value} {n : Nat} {xs : List Value} (h : OwnO w base e v n xs) (hb : base' ≤ base) : OwnO w base' e v n xs := by
  refine ⟨h.1, ?_⟩
  rcases h.2 with h' | ⟨g, o, cap, cur, h1, h2, h3⟩
  · exact .inl h'
  · exact .inr ⟨g, o, cap, cur, h1, Nat.le_trans hb h2, h3⟩
theorem StrmAt.mono {w : World} {B B' : Nat} {m : Mem} {S : St} (h : StrmAt w B m S) (hb : B' ≤ B) : StrmAt w B' m S :=
  ⟨h.blk, h.ring, h.inn.mono hb, h.mks.mono hb, h.wire.mono hb, ⟨Nat.le_trans hb h.low.1, Nat.le_trans hb h.low.2.1, Nat.le_trans hb h.low.2.2⟩, h.sep, h.small⟩

/-- Two streams, apart from each other, newer than w0. -/
def TwoAt (w0 w : World) (a b R : Nat) (S T : St) : Prop :=
  ∃ ms mt, StrmAt w w0.heap.size ms S ∧ StrmAt w w0.heap.size mt T ∧ ms.a = a ∧ ms.R = R ∧ mt.a = b ∧ mt.R = R ∧ (∀ k, ms.In k → ¬ mt.In k) ∧ Ext w0 w
theorem TwoAt.get {w0 w : World} {a b R : Nat} {S T : St} (h : TwoAt w0 w a b R S T) : ∃ p g f s vi vm vw p' g' f' s' vi' vm' vw', StrmAt w w0.heap.size ⟨a, p, g, R, f, s, vi, vm, vw⟩ S ∧ StrmAt w w0.heap.size ⟨b, p', g', R, f', s', vi', vm', vw'⟩ T ∧
    (∀ k, (⟨a, p, g, R, f, s, vi, vm, vw⟩ : Mem).In k → ¬ (⟨b, p', g', R, f', s', vi', vm', vw'⟩ : Mem).In k) ∧ Ext w0 w := by
  obtain ⟨⟨a1, p, g, R1, f, s, vi, vm, vw⟩, ⟨a2, p', g', R2, f', s', vi', vm', vw'⟩, h1, h2, h3, h4, h5, h6, h7, h8⟩ := h
  cases h3
  cases h4
  cases h5
  cases h6
  exact ⟨p, g, f, s, vi, vm, vw, p', g', f', s', vi', vm', vw', h1, h2, h7, h8⟩
theorem TwoAt.left {w0 w w' : World} {a b R : Nat} {ms mt : Mem} {S S' T : St} (h1 : StrmAt w w0.heap.size ms S) (h2 : StrmAt w w0.heap.size mt T) (hd : ∀ k, ms.In k → ¬ mt.In k) (hb : Ext w0 w) (h : Turned w w' w0.heap.size ms S')
    (ha : ms.a = a) (hR : ms.R = R) (hb' : mt.a = b) (hR' : mt.R = R) : TwoAt w0 w' a b R S' T := by
  obtain ⟨m', g1, g2, g3, g4, g5⟩ := h
  refine ⟨m', mt, g1, h2.chg g4 fun k hk hy => hd k (Mem.mem_Y.1 hy) hk, g2.trans ha, g3.trans hR, hb', hR', fun k hk hk2 => ?_, h1.below g4 hb⟩
  rcases g5 k hk with h | h
  · exact hd k h hk2
  · have := (h2.lt hk2).2; omega
theorem TwoAt.right {w0 w w' : World} {a b R : Nat} {ms mt : Mem} {S T T' : St} (h1 : StrmAt w w0.heap.size ms S) (h2 : StrmAt w w0.heap.size mt T) (hd : ∀ k, ms.In k → ¬ mt.In k) (hb : Ext w0 w) (h : Turned w w' w0.heap.size mt T')
    (ha : ms.a = a) (hR : ms.R = R) (hb' : mt.a = b) (hR' : mt.R = R) : TwoAt w0 w' a b R S T' := by
  obtain ⟨m', g1, g2, g3, g4, g5⟩ := h
  refine ⟨ms, m', h1.chg g4 fun k hk hy => hd k hk (Mem.mem_Y.1 hy), g1, ha, hR, g2.trans hb', g3.trans hR', fun k hk hk2 => ?_, h2.below g4 hb⟩
  rcases g5 k hk2 with h | h
  · exact hd k hk h
  · have := (h1.lt hk).2; omega
theorem TwoAt.keep {w0 w w' : World} {a b R : Nat} {S T : St} (h : TwoAt w0 w a b R S T) (hb : Ext w w') : TwoAt w0 w' a b R S T := by
  obtain ⟨ms, mt, h1, h2, h3, h4, h5, h6, h7, h8⟩ := h
  exact ⟨ms, mt, h1.keep hb, h2.keep hb, h3, h4, h5, h6, h7, h8.trans hb⟩
/-- A slice that was there lies apart from a stream that is new. -/
theorem StrmAt.older {w0 w : World} {m : Mem} {S : St} (h : StrmAt w w0.heap.size m S) {A : Option Addr} {n c : Nat} {cs : List Value} (hr : Rd w0 1 A n cs) (h0 : 0 < cs.length) : ∀ k, ob (.slice A n c) = k + 1 → ¬ m.In k := by
  intro k hk hi
  obtain ⟨b, o, rfl, hb, _⟩ := hr.2 h0
  have := (h.lt hi).1
  simp [ob] at hk
  omega
/-- Nothing yet read, nothing closed: what waits, and what went. -/
def quietS (q wire : List UInt8) : St := ⟨[], [], 0, false, q, wire⟩

theorem mod100 (x : Int) : ∃ y : Nat, wrap64 ((IntKind.u64.wrap x).tmod 100) = (y : Int) ∧ y < 100 := by
  obtain ⟨u, hu⟩ : ∃ u : Nat, IntKind.u64.wrap x = (u : Int) := by
    have h : 0 ≤ IntKind.u64.wrap x := by
      simp [IntKind.wrap, IntKind.signed, IntKind.bits]
      omega
    exact ⟨(IntKind.u64.wrap x).toNat, by omega⟩
  refine ⟨u % 100, ?_, Nat.mod_lt _ (by omega)⟩
  rw [hu, show ((u : Int).tmod 100) = ((u % 100 : Nat) : Int) by rw [Int.tmod_eq_emod_of_nonneg (by omega)]; rfl]
  unfold wrap64
  omega

set_option maxHeartbeats 8000000 in
set_option maxRecDepth 20000 in
theorem lawGrants (ps : List (List UInt8)) (L : List Int) (A B : Option Addr) (n c m d : Nat) (w : World) (hr : RdL IsBytes w A n ps) (hr' : Rd w 1 B m (intsV L)) :
    Calls Tryd.prog 5 #[.slice A n c, .slice B m d] w fun e w' => e = .returned (.bool true) ∧ Ext w w' := by
  by_cases hbig : 10 < n ∨ 20 < m
  · have hbig' : 10 < n ∨ (¬ 10 < n ∧ 20 < m) := by omega
    clear hbig
    rcases hbig' with h | ⟨h1, h⟩
    all_goals
      go_enter Tryd.func5, Tryd.ntmps5
      go_wp2_with (go_at_call 22; refine (strmAlive _).mono ?_; rintro e w1 ⟨rfl, hb1⟩)
      go_ret
      exact ⟨rfl, hb1⟩
  have hn10 : n ≤ 10 := by omega
  have hm20 : m ≤ 20 := by omega
  have hl := hr.len
  have hl' := hr'.len_ints
  have HR := Lib.hid hr
  have HR' := Lib.hid hr'
  have HL := Lib.hid hl
  have HL' := Lib.hid hl'
  clear hr hr' hl hl' hbig
  go_enter Tryd.func5, Tryd.ntmps5
  go_wp2_with (first
    | (go_at_call 23; have hz := hS2; refine (strmNew 1000 _ (by omega) (by omega)).mono ?_; rintro e w3 ⟨m3, rfl, hS3, hR3, hb3⟩)
    | (go_at_call 23; refine (strmNew 1000 _ (by omega) (by omega)).mono ?_; rintro e w2 ⟨m2, rfl, hS2, hR2, hb2⟩)
    | (go_at_call 22; refine (strmAlive _).mono ?_; rintro e w1 ⟨rfl, hb1⟩))
  have s1 := hb1.size
  have s2 := hb2.size
  have hT : TwoAt w w3 m2.a m3.a 1000 (quietS [] []) (quietS [] []) := by
    refine ⟨m2, m3, (hS2.keep hb3).mono s1, hS3.mono (Nat.le_trans s1 s2), rfl, hR2, rfl, hR3, fun k hk hk2 => ?_, hb1.trans (hb2.trans hb3)⟩
    have := (hS2.lt hk).2
    have := (hS3.lt hk2).1
    omega
  generalize m2.a = a at *
  generalize m3.a = b at *
  have HT := Lib.hid hT
  clear hT hz hS2 hS3 hb1 hb2 hb3 s1 s2 hR2 hR3
  go_loopw [49] (fun i wr => ∃ (k : Nat) (q : List UInt8), k ≤ n ∧ i = .int .i64 k ∧ q.length ≤ 90 * k ∧ TwoAt w wr a b 1000 (quietS q []) (quietS q [])) (fun i _ => n - (intOf i).toNat)
  case atStart => exact ⟨0, [], Nat.zero_le _, rfl, by simp, HT.out⟩
  case round =>
    obtain ⟨k, q, hk, rfl, hq, hT⟩ := hrel
    obtain ⟨p1, g1, f1, s1, vi1, vm1, vw1, p2, g2, f2, s2, vi2, vm2, vw2, hS, hT2, hd, hb⟩ := hT.get
    by_cases hlt : k < n
    · obtain ⟨bb, o, v, rfl, hcell, A2, n2, c2, rfl, hnc2, hcm2, hrd2⟩ := HR.out.at_ (k := k) (by rw [HL.out]; exact hlt)
      have hc := hcell.out wr hb
      obtain ⟨l, hl⟩ : ∃ l, ps[k]'(by rw [HL.out]; exact hlt) = l := ⟨_, rfl⟩
      rw [hl] at hrd2
      have hn2 := hrd2.len_bytes
      have HRD := Lib.hid hrd2
      have HN2 := Lib.hid hn2
      clear hcell hl hrd2 hn2
      by_cases h90 : (90 : Int) < n2
      · go_wp2
        go_ret
        exact ⟨rfl, hb⟩
      · have hfit : q.length + n2 ≤ 1000 := by omega
        go_wp2_with (first
          | (go_at_call 26; have hz := hT5; refine (strmSend hT5 A2 n2 c2 l hnc2 (HRD.out.keep hb5) (fun h0 => hT5.older HRD.out (by have := HN2.out; simp [bytesV]; omega)) (by simp [quietS]; omega) rfl (by simp [quietS]; omega)).mono ?_; rintro e w6 ⟨rfl, ht6⟩; have hT6 := TwoAt.right hS5 hT5 hd5 hb5 ht6 rfl rfl rfl rfl)
          | (go_at_call 26; refine (strmSend hS A2 n2 c2 l hnc2 (HRD.out.keep hb) (fun h0 => hS.older HRD.out (by have := HN2.out; simp [bytesV]; omega)) (by simp [quietS]; omega) rfl (by simp [quietS]; omega)).mono ?_; rintro e w5 ⟨rfl, ht5⟩; obtain ⟨p5, g5, f5, s5, vi5, vm5, vw5, p6, g6, f6, s6, vi6, vm6, vw6, hS5, hT5, hd5, hb5⟩ := (TwoAt.left hS hT2 hd hb ht5 rfl rfl rfl rfl).get))
        go_roundw
        case rel => exact ⟨k + 1, q ++ l, hlt, by go_num, by simp [HN2.out]; omega, hT6⟩
        case measure => simp [intOf]; omega
    · obtain rfl : k = n := by omega
      have hq9 : q.length ≤ 900 := by omega
      have HT2 := Lib.hid hT
      clear hT hS hT2 hd hb hq
      go_wp2
      go_loopw [11, 69] (fun sm i wv => ∃ (j S : Nat), j ≤ m ∧ i = .int .i64 j ∧ sm = .int .i64 S ∧ S ≤ 100 * j ∧ TwoAt w wv a b 1000 (quietS (q.drop S) (q.take S)) (quietS q [])) (fun _ i _ => m - (intOf i).toNat)
      case atStart => exact ⟨0, 0, Nat.zero_le _, rfl, rfl, by simp, by simpa using HT2.out⟩
      case round =>
        obtain ⟨j, S, hj, rfl, rfl, hSj, hT⟩ := hrel
        obtain ⟨p1, g1, f1, s1, vi1, vm1, vw1, p2, g2, f2, s2, vi2, vm2, vw2, hS, hT2, hd, hb⟩ := hT.get
        by_cases hlt : j < m
        · have hjL : j < L.length := by rw [HL'.out]; exact hlt
          obtain ⟨x, hx⟩ : ∃ x, L[j]? = some x := ⟨_, List.getElem?_eq_getElem hjL⟩
          obtain ⟨bb, o, rfl, hbb, hcl⟩ := HR'.out.2 (by simp [intsV]; omega)
          have hcx : wr.cell? ⟨bb, o + j, none⟩ = some (.int .i64 x) := (hb.cell (p := ⟨bb, o + j, none⟩) hbb).trans (hcl j _ (by simp [intsV, hx]))
          clear hcl hx
          obtain ⟨y, hy, hy100⟩ := mod100 x
          have hmin : min y (q.drop S).length = min (y : Int).toNat (quietS (q.drop S) (q.take S)).q.length := by simp [quietS]
          go_wp2_with (go_at_call 27; refine (strmGrant hS (y : Int) (min y (q.drop S).length) hmin rfl).mono ?_; rintro e w5 ⟨rfl, ht5⟩; have hT5 := TwoAt.left hS hT2 hd hb ht5 rfl rfl rfl rfl; have HT5 := Lib.hid hT5; clear hT5 ht5)
          have hT5 := HT5.out
          have hst : ({ quietS (q.drop S) (q.take S) with q := (quietS (q.drop S) (q.take S)).q.drop (min y (q.drop S).length), wire := (quietS (q.drop S) (q.take S)).wire ++ (quietS (q.drop S) (q.take S)).q.take (min y (q.drop S).length) } : St) = quietS (q.drop (S + y)) (q.take (S + y)) := by
            unfold quietS
            simp only [St.mk.injEq, true_and]
            constructor
            · by_cases h : y ≤ (q.drop S).length
              · rw [Nat.min_eq_left h, List.drop_drop]
              · rw [Nat.min_eq_right (by omega), List.drop_length, List.drop_of_length_le (by simp at h; omega)]
            · by_cases h : y ≤ (q.drop S).length
              · rw [Nat.min_eq_left h, List.take_add]
              · rw [Nat.min_eq_right (by omega), List.take_length, List.take_append_drop, List.take_of_length_le (by simp at h; omega)]
          rw [hst] at hT5
          have HT6 := Lib.hid hT5
          clear hT5 hst HT5
          go_roundw
          case rel => exact ⟨j + 1, S + y, hlt, by go_num, by go_num, by omega, HT6.out⟩
          case measure => simp [intOf]; omega
        · obtain rfl : j = m := by omega
          go_wp2_with (go_at_call 27; refine (strmGrant hT2 (S : Int) (min S q.length) (by simp [quietS]) rfl).mono ?_; rintro e w6 ⟨rfl, ht5⟩; have hT5 := TwoAt.right hS hT2 hd hb ht5 rfl rfl rfl rfl; have HT5 := Lib.hid hT5; clear hT5 ht5)
          have hT5 := HT5.out
          have hst : ({ quietS q [] with q := (quietS q []).q.drop (min S q.length), wire := (quietS q []).wire ++ (quietS q []).q.take (min S q.length) } : St) = quietS (q.drop S) (q.take S) := by
            unfold quietS
            simp only [St.mk.injEq, true_and, List.nil_append]
            constructor
            · by_cases h : S ≤ q.length
              · rw [Nat.min_eq_left h]
              · rw [Nat.min_eq_right (by omega), List.drop_length, List.drop_of_length_le (by omega)]
            · by_cases h : S ≤ q.length
              · rw [Nat.min_eq_left h]
              · rw [Nat.min_eq_right (by omega), List.take_length, List.take_of_length_le (by omega)]
          rw [hst] at hT5
          clear hst HT5 hS hT2 hd hb hT
          obtain ⟨p1, g1, f1, s1, vi1, vm1, vw1, p2, g2, f2, s2, vi2, vm2, vw2, hA6, hB6, _, hex⟩ := hT5.get
          obtain ⟨W, hW⟩ : ∃ W, q.take S = W := ⟨_, rfl⟩
          obtain ⟨Q, hQ⟩ : ∃ Q, q.drop S = Q := ⟨_, rfl⟩
          rw [hW, hQ] at hA6 hB6
          obtain ⟨Qn, hQn⟩ : ∃ Qn : Int, (Q.length : Int) = Qn := ⟨_, rfl⟩
          have hWA : (quietS Q W).wire = W := rfl
          have hQA : ((quietS Q W).q.length : Int) = Qn := hQn
          have HWA := Lib.hid hWA
          have HQA := Lib.hid hQA
          have HEX := Lib.hid hex
          clear hT5 hW hQ hQn hex hWA hQA
          -- DAG StreamGrants26
          refine wp_region_dag (E := Ext) (w0 := w6) (Φ := fun i v w => match i with | 0 => (v = .pointer (some ⟨a, 0, none⟩)) | 1 => (∃ A c, v = .slice A W.length c ∧ Rd w 1 A W.length (bytesV W)) | 2 => (v = .string ⟨W.toArray⟩) | 3 => (v = .pointer (some ⟨b, 0, none⟩)) | 4 => (∃ A c, v = .slice A W.length c ∧ Rd w 1 A W.length (bytesV W)) | 5 => (v = .string ⟨W.toArray⟩) | 6 => (v = .bool true) | 7 => (v = .bool true) | 8 => (v = .pointer (some ⟨a, 0, none⟩)) | 9 => (v = .int .i64 ((1000 : Int) - Qn)) | 10 => (v = .pointer (some ⟨b, 0, none⟩)) | 11 => (v = .int .i64 ((1000 : Int) - Qn)) | 12 => (v = .bool true) | 13 => (v = .bool true) | 14 => (v = .bool true) | _ => True) (show Tryd.prog.follows .mixedOrders = true from Checked.mixed Tryd.checked) 101 rfl (by decide +kernel) ?_ ((Below.refl _ _).drew) ?_ ⟨?_, ?_, ?_, ?_, ?_, ?_, ?_, ?_, ?_, ?_, ?_, ?_, ?_, ?_, ?_, trivial⟩ ?_
          · intro i v w w' h hE
            match i, h with
            | 0, h => exact h
            | 1, h => exact (by obtain ⟨A, c, h1, h2⟩ := h; exact ⟨A, c, h1, h2.keep hE⟩)
            | 2, h => exact h
            | 3, h => exact h
            | 4, h => exact (by obtain ⟨A, c, h1, h2⟩ := h; exact ⟨A, c, h1, h2.keep hE⟩)
            | 5, h => exact h
            | 6, h => exact h
            | 7, h => exact h
            | 8, h => exact h
            | 9, h => exact h
            | 10, h => exact h
            | 11, h => exact h
            | 12, h => exact h
            | 13, h => exact h
            | 14, h => exact h
            | _ + 15, _ => trivial
          · exact fun w w' h h' => h.trans h'
          · -- 0: t87 := move t5 
            intro ac wx hE hsz hdf h
            have e5 : ac.tmps[5]? = some (.pointer (some ⟨a, 0, none⟩)) := by obtain ⟨v, h1, h2⟩ := h 5 (by decide +kernel); exact h1.trans (h2.symm.trans rfl)
            clear h hsz hdf
            go_wp2
            exact ⟨_, rfl, rfl, Ext.refl _⟩
          · -- 1: t88 := call { value (Operand.func 28), args := #[t87], argTypes := #[44] } 
            intro ac wx hE hsz hdf h
            have e87 : ac.tmps[87]? = some (.pointer (some ⟨a, 0, none⟩)) := by obtain ⟨v, h1, h2⟩ := h 87 (by decide +kernel); rw [h1]; exact congrArg some h2
            clear h hsz hdf
            go_wp2_with ((go_at_call 28; refine (strmWire (hA6.keep hE)).mono ?_; rintro e w9 ⟨v9, rfl, ho9, hb9⟩; obtain ⟨A9, c9, rfl, _, _, hrd9⟩ := own_rd ho9; rw [HWA.out] at *))
            exact ⟨_, rfl, ⟨A9, c9, rfl, hrd9⟩, hb9⟩
          · -- 2: t89 := convert 42 9 t88 
            intro ac wx hE hsz hdf h
            obtain ⟨v88, e88, s88⟩ : ∃ v, ac.tmps[88]? = some v ∧ (∃ A c, v = .slice A W.length c ∧ Rd wx 1 A W.length (bytesV W)) := h 88 (by decide +kernel)
            clear h hsz hdf
            obtain ⟨A8, c8, rfl, hrd8⟩ := s88; have hcv := conv_str (P := Tryd.prog) (c := c8) Tryd.underlying42 Tryd.underlying5 Tryd.underlying9 hrd8
            go_wp2
            exact ⟨_, rfl, rfl, Ext.refl _⟩
          · -- 3: t90 := move t7 
            intro ac wx hE hsz hdf h
            have e7 : ac.tmps[7]? = some (.pointer (some ⟨b, 0, none⟩)) := by obtain ⟨v, h1, h2⟩ := h 7 (by decide +kernel); exact h1.trans (h2.symm.trans rfl)
            clear h hsz hdf
            go_wp2
            exact ⟨_, rfl, rfl, Ext.refl _⟩
          · -- 4: t91 := call { value (Operand.func 28), args := #[t90], argTypes := #[44] } 
            intro ac wx hE hsz hdf h
            have e90 : ac.tmps[90]? = some (.pointer (some ⟨b, 0, none⟩)) := by obtain ⟨v, h1, h2⟩ := h 90 (by decide +kernel); rw [h1]; exact congrArg some h2
            clear h hsz hdf
            go_wp2_with ((go_at_call 28; refine (strmWire (hB6.keep hE)).mono ?_; rintro e w9 ⟨v9, rfl, ho9, hb9⟩; obtain ⟨A9, c9, rfl, _, _, hrd9⟩ := own_rd ho9; rw [HWA.out] at *))
            exact ⟨_, rfl, ⟨A9, c9, rfl, hrd9⟩, hb9⟩
          · -- 5: t92 := convert 42 9 t91 
            intro ac wx hE hsz hdf h
            obtain ⟨v91, e91, s91⟩ : ∃ v, ac.tmps[91]? = some v ∧ (∃ A c, v = .slice A W.length c ∧ Rd wx 1 A W.length (bytesV W)) := h 91 (by decide +kernel)
            clear h hsz hdf
            obtain ⟨A8, c8, rfl, hrd8⟩ := s91; have hcv := conv_str (P := Tryd.prog) (c := c8) Tryd.underlying42 Tryd.underlying5 Tryd.underlying9 hrd8
            go_wp2
            exact ⟨_, rfl, rfl, Ext.refl _⟩
          · -- 6: t93 := binOp BinOp.eql 9 t89 t92 9 
            intro ac wx hE hsz hdf h
            have e89 : ac.tmps[89]? = some (.string ⟨W.toArray⟩) := by obtain ⟨v, h1, h2⟩ := h 89 (by decide +kernel); rw [h1]; exact congrArg some h2
            have e92 : ac.tmps[92]? = some (.string ⟨W.toArray⟩) := by obtain ⟨v, h1, h2⟩ := h 92 (by decide +kernel); rw [h1]; exact congrArg some h2
            clear h hsz hdf
            go_wp2
            exact ⟨_, rfl, by simp, Ext.refl _⟩
          · -- 7: t94 := move t93 
            intro ac wx hE hsz hdf h
            have e93 : ac.tmps[93]? = some (.bool true) := by obtain ⟨v, h1, h2⟩ := h 93 (by decide +kernel); rw [h1]; exact congrArg some h2
            clear h hsz hdf
            go_wp2
            exact ⟨_, rfl, rfl, Ext.refl _⟩
          · -- 8: t95 := move t5 (7, True)
            intro ac wx hE hsz hdf h
            have e5 : ac.tmps[5]? = some (.pointer (some ⟨a, 0, none⟩)) := by obtain ⟨v, h1, h2⟩ := h 5 (by decide +kernel); exact h1.trans (h2.symm.trans rfl)
            have e94 : ac.tmps[94]? = some (.bool true) := by obtain ⟨v, h1, h2⟩ := h 94 (by decide +kernel); rw [h1]; exact congrArg some h2
            clear h hsz hdf
            go_wp2
            exact ⟨_, rfl, rfl, Ext.refl _⟩
          · -- 9: t96 := call { value (Operand.func 29), args := #[t95], argTypes := #[44] } (7, True)
            intro ac wx hE hsz hdf h
            have e95 : ac.tmps[95]? = some (.pointer (some ⟨a, 0, none⟩)) := by obtain ⟨v, h1, h2⟩ := h 95 (by decide +kernel); rw [h1]; exact congrArg some h2
            have e94 : ac.tmps[94]? = some (.bool true) := by obtain ⟨v, h1, h2⟩ := h 94 (by decide +kernel); rw [h1]; exact congrArg some h2
            clear h hsz hdf
            go_wp2_with ((go_at_call 29; refine (strmRoom (hA6.keep hE)).mono ?_; rintro e w9 ⟨rfl, n9, rfl⟩; rw [HQA.out]))
            exact ⟨_, rfl, rfl, Ext.drawn _ _⟩
          · -- 10: t97 := move t7 (7, True)
            intro ac wx hE hsz hdf h
            have e7 : ac.tmps[7]? = some (.pointer (some ⟨b, 0, none⟩)) := by obtain ⟨v, h1, h2⟩ := h 7 (by decide +kernel); exact h1.trans (h2.symm.trans rfl)
            have e94 : ac.tmps[94]? = some (.bool true) := by obtain ⟨v, h1, h2⟩ := h 94 (by decide +kernel); rw [h1]; exact congrArg some h2
            clear h hsz hdf
            go_wp2
            exact ⟨_, rfl, rfl, Ext.refl _⟩
          · -- 11: t98 := call { value (Operand.func 29), args := #[t97], argTypes := #[44] } (7, True)
            intro ac wx hE hsz hdf h
            have e97 : ac.tmps[97]? = some (.pointer (some ⟨b, 0, none⟩)) := by obtain ⟨v, h1, h2⟩ := h 97 (by decide +kernel); rw [h1]; exact congrArg some h2
            have e94 : ac.tmps[94]? = some (.bool true) := by obtain ⟨v, h1, h2⟩ := h 94 (by decide +kernel); rw [h1]; exact congrArg some h2
            clear h hsz hdf
            go_wp2_with ((go_at_call 29; refine (strmRoom (hB6.keep hE)).mono ?_; rintro e w9 ⟨rfl, n9, rfl⟩; rw [HQA.out]))
            exact ⟨_, rfl, rfl, Ext.drawn _ _⟩
          · -- 12: t99 := binOp BinOp.eql 3 t96 t98 3 (7, True)
            intro ac wx hE hsz hdf h
            have e96 : ac.tmps[96]? = some (.int .i64 ((1000 : Int) - Qn)) := by obtain ⟨v, h1, h2⟩ := h 96 (by decide +kernel); rw [h1]; exact congrArg some h2
            have e98 : ac.tmps[98]? = some (.int .i64 ((1000 : Int) - Qn)) := by obtain ⟨v, h1, h2⟩ := h 98 (by decide +kernel); rw [h1]; exact congrArg some h2
            have e94 : ac.tmps[94]? = some (.bool true) := by obtain ⟨v, h1, h2⟩ := h 94 (by decide +kernel); rw [h1]; exact congrArg some h2
            clear h hsz hdf
            go_wp2
            exact ⟨_, rfl, by simp, Ext.refl _⟩
          · -- 13: t100 := pick t94 t99 (const (Value.bool false)) 
            intro ac wx hE hsz hdf h
            have e94 : ac.tmps[94]? = some (.bool true) := by obtain ⟨v, h1, h2⟩ := h 94 (by decide +kernel); rw [h1]; exact congrArg some h2
            have e99 : ac.tmps[99]? = some (.bool true) := by obtain ⟨v, h1, h2⟩ := h 99 (by decide +kernel); rw [h1]; exact congrArg some h2
            clear h hsz hdf
            go_wp2
            exact ⟨_, rfl, rfl, Ext.refl _⟩
          · -- 14: t4 := assign t100 
            intro ac wx hE hsz hdf h
            have e100 : ac.tmps[100]? = some (.bool true) := by obtain ⟨v, h1, h2⟩ := h 100 (by decide +kernel); rw [h1]; exact congrArg some h2
            clear h hsz hdf
            go_wp2
            exact ⟨_, rfl, rfl, Ext.refl _⟩
          · intro ac w9 hE hsz hdf h hrest
            have e4 : ac.tmps[4]? = some (.bool true) := by obtain ⟨v, h1, h2⟩ := h 14 _ rfl; rw [h2 4 rfl]; exact congrArg some h1
            clear h hrest hsz
            have HDF := Lib.hid hdf
            clear hdf
            go_wp2
            refine bodyPost_ret (results_tmp rfl _ _ _) HDF.out ⟨by simp [e4], ?_⟩
            exact HEX.out.trans hE
          -- GAD StreamGrants26
end Go.Proofs.YtnbdmlpnoiljdaaDoor
