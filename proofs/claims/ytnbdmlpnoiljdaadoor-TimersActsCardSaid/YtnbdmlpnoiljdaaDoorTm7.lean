/- Timers: Set. -/
import Derived.Test.YtnbdmlpnoiljdaaDoorTm6
import Derived.Test.YtnbdmlpnoiljdaaDoorDagQ
import Derived.Test.YtnbdmlpnoiljdaaDoorDag
import Derived.Test.YtnbdmlpnoiljdaaDoorActOf
namespace Go.Proofs.YtnbdmlpnoiljdaaDoor
open Go Go.RowKit

set_option maxHeartbeats 1000000 in
theorem tmSetRange {w : World} {B tb : Nat} {v : Value} {now : Int} {L : List (Int × Int)} {E : Nat → Addr} (h : TmAt w B tb v now L) (key at' : Int) (hE : ErrC [0, 1] w E) (hbad : at' < now ∨ 1099511627776 < at') :
    Calls Tryd.prog 38 #[.pointer (some ⟨tb, 0, none⟩), .int .i64 key, .int .i64 at'] w fun e w' => e = .returned (errV E 0) ∧ w' = w := by
  have e0 : w.cell? ⟨tb, 0, none⟩ = some (.int .i64 now) := h.blk.cell 0
  have g0 := hE.cell (i := 0) (by decide) rfl
  unfold errV at *
  clear h hE
  by_cases hlt : at' < now
  · go_enter Tryd.func38, Tryd.ntmps38
    go_wp2
    go_ret
    exact ⟨rfl, rfl⟩
  · have hgt : 1099511627776 < at' := by omega
    clear hbad
    go_enter Tryd.func38, Tryd.ntmps38
    go_wp2
    go_ret
    exact ⟨rfl, rfl⟩

set_option maxHeartbeats 1000000 in
theorem tmSetFull {w : World} {B tb : Nat} {v : Value} {now : Int} {L : List (Int × Int)} {E : Nat → Addr} (h : TmAt w B tb v now L) (key at' : Int) (hE : ErrC [0, 1] w E) (h1 : now ≤ at') (h2 : at' ≤ 1099511627776) (hno : ∀ y ∈ L, y.2 ≠ key) (hfull : 16 ≤ L.length) :
    Calls Tryd.prog 38 #[.pointer (some ⟨tb, 0, none⟩), .int .i64 key, .int .i64 at'] w fun e w' => e = .returned (errV E 1) ∧ Ext w w' := by
  have e0 : w.cell? ⟨tb, 0, none⟩ = some (.int .i64 now) := h.blk.cell 0
  have HH := Lib.hid h
  have HNO := Lib.hid hno
  have HE := Lib.hid hE
  have htl := h.blk.lt
  obtain ⟨A, c, rfl, _, _, _⟩ := h.own.rd
  have e1 := h.blk.cell 1
  have e1 : w.cell? ⟨tb, 1, none⟩ = some (.slice A L.length c) := e1
  obtain ⟨n, hn⟩ : ∃ n, L.length = n := ⟨_, rfl⟩
  rw [hn] at e1 hfull
  unfold errV
  clear h hE hno hn
  go_enter Tryd.func38, Tryd.ntmps38
  go_wp2_with (go_at_call 71; go_loud (refine (tmFindNo HH.out HNO.out).mono ?_); rintro e w9 ⟨rfl, hx9⟩; have y1 := (hx9.cell (p := ⟨tb, 1, none⟩) htl).trans e1; have g9 := (HE.out.keep hx9).cell (i := 1) (by decide) rfl; unfold errV at g9)
  go_ret
  exact ⟨rfl, hx9⟩

/-- A pair of answers of which the second is free. -/
def PairB (k : Nat) (v : Value) : Prop := ∃ b : Bool, v = .tuple #[.int .i64 k, .bool b]
def BoolV (v : Value) : Prop := ∃ b : Bool, v = .bool b

theorem place_ex {L : List (Int × Int)} (h : sortP L) (x : Int × Int) : ∃ k, Place L x k := by
  induction L with
  | nil => exact ⟨0, by simp [Place]⟩
  | cons y r ih =>
    by_cases hy : ltP y x
    · obtain ⟨k, h1, h2, h3⟩ := ih h.2
      refine ⟨k + 1, by simp; omega, fun j z hz hj => ?_, fun j z hz hj => ?_⟩
      · cases j with
        | zero => simp at hz; subst hz; exact hy
        | succ j => exact h2 j z (by simpa using hz) (by omega)
      · cases j with
        | zero => omega
        | succ j => exact h3 j z (by simpa using hz) (by omega)
    · refine ⟨0, by simp, fun j z _ hj => by omega, fun j z hz _ => ?_⟩
      cases j with
      | zero => simp at hz; subst hz; exact hy
      | succ j => exact fun hzx => hy (ltP_trans (h.1 z (List.mem_of_getElem? (by simpa using hz))) hzx)
theorem place_uni {L : List (Int × Int)} {x : Int × Int} {k k' : Nat} (h : Place L x k) (h' : Place L x k') : k = k' := by
  rcases Nat.lt_trichotomy k k' with hl | hl | hl
  · have hk := List.getElem?_eq_getElem (show k < L.length by have := h'.1; omega)
    exact absurd (h'.2.1 k _ hk hl) (h.2.2 k _ hk (Nat.le_refl _))
  · exact hl
  · have hk := List.getElem?_eq_getElem (show k' < L.length by have := h.1; omega)
    exact absurd (h.2.1 k' _ hk hl) (h'.2.2 k' _ hk (Nat.le_refl _))

set_option maxHeartbeats 4000000 in
set_option maxRecDepth 20000 in
theorem tmSetOk {w : World} {B tb : Nat} {v : Value} {now : Int} {L : List (Int × Int)} (h : TmAt w B tb v now L) (key at' : Int) (h1 : now ≤ at') (h2 : at' ≤ 1099511627776) (hroom : (∃ x ∈ L, x.2 = key) ∨ L.length < 16) :
    Calls Tryd.prog 38 #[.pointer (some ⟨tb, 0, none⟩), .int .i64 key, .int .i64 at'] w fun e w' => e = .returned .nilIface ∧ ∃ L', TmTurned w w' B tb v now L' ∧ L'.Perm ((at', key) :: dropK key L) := by
  have hfind : ∃ r : Int, (Calls Tryd.prog 71 #[.pointer (some ⟨tb, 0, none⟩), .int .i64 key] w fun e w' => e = .returned (.int .i64 r) ∧ Ext w w') ∧ (0 ≤ r ∨ (r = -1 ∧ L.length < 16)) := by
    rcases key_or L key with ⟨k, x, hk, hx⟩ | hno
    · exact ⟨k, tmFindYes h hk hx, .inl (by omega)⟩
    · refine ⟨-1, tmFindNo h hno, .inr ⟨rfl, ?_⟩⟩
      rcases hroom with ⟨x, hx, he⟩ | hl
      · exact absurd he (hno x hx)
      · exact hl
  have e0 : w.cell? ⟨tb, 0, none⟩ = some (.int .i64 now) := h.blk.cell 0
  have HH := Lib.hid h
  have htl := h.blk.lt
  obtain ⟨A, c, hv, _, _, _⟩ := h.own.rd
  have e1 : w.cell? ⟨tb, 1, none⟩ = some (.slice A L.length c) := by rw [← hv]; exact h.blk.cell 1
  have HV := Lib.hid hv
  have hlen : ∀ M, dropK key L = M → M.length + 1 ≤ 16 := by
    rintro M rfl
    rcases hroom with ⟨x, hx, he⟩ | hl
    · obtain ⟨k, hk, rfl⟩ := List.getElem_of_mem hx
      have hd := dropK_at h.keys (List.getElem?_eq_getElem hk) he
      rw [← hd, List.length_append, List.length_take, List.length_drop]
      have := h.len
      omega
    · have : (dropK key L).length ≤ L.length := List.length_filter_le _ _
      omega
  have HLEN := Lib.hid hlen
  obtain ⟨r, hf, hr⟩ := hfind
  have HF := Lib.hid hf
  obtain ⟨n, hn⟩ : ∃ n, L.length = n := ⟨_, rfl⟩
  rw [hn] at e1 hr
  clear h hf hroom hn hv hlen
  rcases hr with hr | ⟨rfl, hr⟩
  all_goals
    go_enter Tryd.func38, Tryd.ntmps38
    go_wp2_with (first
      | (go_at_call 45; go_loud (refine (tmClear (HH.out.keep hx9) key).mono ?_); rintro e wc ⟨b, rfl, _, v1, hT, hcc, hn1⟩; obtain ⟨A1, n1, c1, rfl⟩ := hT.own.sh)
      | (go_at_call 71; go_loud (refine HF.out.mono ?_); rintro e w9 ⟨rfl, hx9⟩; have y1 := (hx9.cell (p := ⟨tb, 1, none⟩) htl).trans e1))
    have hcw : Chg (tb :: v.ownBlock.toList) w wc := (Chg.of_ext hx9).trans hcc
    have hnw : ∀ j, (Value.slice A1 n1 c1).ownBlock = some j → v.ownBlock = some j ∨ w.heap.size ≤ j := fun j hj => (hn1 j hj).imp id fun h => Nat.le_trans hx9.size h
    have hoc : ∀ j, (Value.slice A1 n1 c1).ownBlock = some j → B ≤ j ∧ j < wc.heap.size := fun j hj => hT.own.lt hj
    have htc := hT.blk.lt
    have hx2 := Ext.new1 wc (.cells #[.int .i64 at', .int .i64 key] 115)
    have hXB := Blk.new wc 115 #[.int .i64 at', .int .i64 key]
    have hT2 := hT.keep hx2
    generalize wc.alloc (.cells #[.int .i64 at', .int .i64 key] 115) = w2 at *
    obtain ⟨xb, hxbe⟩ : ∃ p, wc.heap.size = p := ⟨_, rfl⟩
    rw [hxbe] at hXB ⊢
    obtain ⟨L1, hL1⟩ : ∃ M, dropK key L = M := ⟨_, rfl⟩
    rw [hL1] at hT2
    obtain ⟨A', c', hv', _, _, hA3⟩ := hT2.own.rd
    obtain ⟨rfl, hn1L, rfl⟩ : A' = A1 ∧ L1.length = n1 ∧ c' = c1 := by injection hv' with a b c; exact ⟨a.symm, b.symm, c.symm⟩
    rw [hn1L] at hA3
    obtain ⟨k, hk⟩ := place_ex hT2.srt (at', key)
    have HK := Lib.hid hk
    have HR1 := Lib.hid hA3
    have HS1 := Lib.hid hT2.srt
    have hn16 : n1 ≤ 16 := by rw [← hn1L]; exact hT2.len
    have HN1L := Lib.hid hn1L
    have y1' : w2.cell? ⟨tb, 1, none⟩ = some (.slice A' n1 c') := hT2.blk.cell 1
    have x0' : w2.cell? ⟨xb, 0, none⟩ = some (.int .i64 at') := hXB.cell 0
    have x1' : w2.cell? ⟨xb, 1, none⟩ = some (.int .i64 key) := hXB.cell 1
    have htb2 := hT2.blk.lt
    have hxb2 := hXB.lt
    have HT2 := Lib.hid hT2
    have HXB := Lib.hid hXB
    have HL1 := Lib.hid hL1
    have HCW := Lib.hid (hcw.trans (.of_ext hx2))
    clear hcc hn1 hT hk hA3 hn1L hv' hx2 hT2 hXB hL1 hcw y1 e1 e0 hx9
    -- DAG TmSet7
    refine wp_region_dag (E := Ext) (w0 := w2) (Φ := fun i v w => match i with | 0 => (v = .pointer (some ⟨tb, 0, none⟩)) | 1 => (v = .pointer (some ⟨tb, 0, none⟩)) | 2 => (v = .pointer (some ⟨tb, 1, none⟩)) | 3 => (v = .slice A' n1 c') | 4 => (v = .agg #[.int .i64 at', .int .i64 key]) | 5 => (PairB k v) | 6 => (PairB k v) | 7 => (v = .int .i64 k) | 8 => (BoolV v) | 9 => (v = .int .i64 k) | 10 => (BoolV v) | _ => True) (show Tryd.prog.follows .mixedOrders = true from Checked.mixed Tryd.checked) 62 rfl (by decide +kernel) ?_ ((Below.refl _ _).drew) ?_ ⟨?_, ?_, ?_, ?_, ?_, ?_, ?_, ?_, ?_, ?_, ?_, trivial⟩ ?_
    · intro i v w w' h hE
      match i, h with
      | 0, h => exact h
      | 1, h => exact h
      | 2, h => exact h
      | 3, h => exact h
      | 4, h => exact h
      | 5, h => exact h
      | 6, h => exact h
      | 7, h => exact h
      | 8, h => exact h
      | 9, h => exact h
      | 10, h => exact h
      | _ + 11, _ => trivial
    · exact fun w w' h h' => h.trans h'
    · -- 0: t43 := move t0 
      intro ac wx hE hsz hdf h
      have e0 : ac.tmps[0]? = some (.pointer (some ⟨tb, 0, none⟩)) := by obtain ⟨v, h1, h2⟩ := h 0 (by decide +kernel); exact h1.trans (h2.symm.trans rfl)
      clear h hsz hdf
      go_wp2
      exact ⟨_, rfl, rfl, Ext.refl _⟩
    · -- 1: t44 := nilCheck t43 
      intro ac wx hE hsz hdf h
      have e43 : ac.tmps[43]? = some (.pointer (some ⟨tb, 0, none⟩)) := by obtain ⟨v, h1, h2⟩ := h 43 (by decide +kernel); rw [h1]; exact congrArg some h2
      clear h hsz hdf
      go_wp2
      exact ⟨_, rfl, rfl, Ext.refl _⟩
    · -- 2: t45 := fieldAddr 113 t44 1 
      intro ac wx hE hsz hdf h
      have e44 : ac.tmps[44]? = some (.pointer (some ⟨tb, 0, none⟩)) := by obtain ⟨v, h1, h2⟩ := h 44 (by decide +kernel); rw [h1]; exact congrArg some h2
      clear h hsz hdf
      go_wp2
      exact ⟨_, rfl, rfl, Ext.refl _⟩
    · -- 3: t46 := load 111 t45 
      intro ac wx hE hsz hdf h
      have e45 : ac.tmps[45]? = some (.pointer (some ⟨tb, 1, none⟩)) := by obtain ⟨v, h1, h2⟩ := h 45 (by decide +kernel); rw [h1]; exact congrArg some h2
      clear h hsz hdf
      have y1 := (hE.cell (p := ⟨tb, 1, none⟩) htb2).trans y1'
      go_wp2
      exact ⟨_, rfl, rfl, Ext.refl _⟩
    · -- 4: t47 := load 115 t7 
      intro ac wx hE hsz hdf h
      have e7 : ac.tmps[7]? = some (.pointer (some ⟨xb, 0, none⟩)) := by obtain ⟨v, h1, h2⟩ := h 7 (by decide +kernel); exact h1.trans (h2.symm.trans rfl)
      clear h hsz hdf
      have y1 := (hE.cell (p := ⟨xb, 0, none⟩) hxb2).trans x0'; have y2 := (hE.cell (p := ⟨xb, 1, none⟩) hxb2).trans x1'
      go_wp2
      exact ⟨_, rfl, rfl, Ext.refl _⟩
    · -- 5: t48 := call { value (Operand.func 72), args := #[t46, t47, Operand.func 73], argTypes := #[111, 115, 117] } 
      intro ac wx hE hsz hdf h
      have e46 : ac.tmps[46]? = some (.slice A' n1 c') := by obtain ⟨v, h1, h2⟩ := h 46 (by decide +kernel); rw [h1]; exact congrArg some h2
      have e47 : ac.tmps[47]? = some (.agg #[.int .i64 at', .int .i64 key]) := by obtain ⟨v, h1, h2⟩ := h 47 (by decide +kernel); rw [h1]; exact congrArg some h2
      clear h hsz hdf
      go_wp2_with ((go_at_call 72; refine (tmSearch (HR1.out.keep hE) HS1.out (at', key) (by omega)).mono ?_; rintro e w' ⟨k', b4, rfl, hpl, hx4⟩))
      exact ⟨_, rfl, ⟨b4, by rw [place_uni HK.out hpl]⟩, hx4⟩
    · -- 6: t42 := move t48 
      intro ac wx hE hsz hdf h
      obtain ⟨v48, e48, s48⟩ : ∃ v, ac.tmps[48]? = some v ∧ (PairB k v) := h 48 (by decide +kernel)
      clear h hsz hdf
      go_wp2
      exact ⟨_, rfl, s48, Ext.refl _⟩
    · -- 7: t49 := extract t42 0 
      intro ac wx hE hsz hdf h
      obtain ⟨v42, e42, s42⟩ : ∃ v, ac.tmps[42]? = some v ∧ (PairB k v) := h 42 (by decide +kernel)
      clear h hsz hdf
      obtain ⟨b4, rfl⟩ := s42
      go_wp2
      exact ⟨_, rfl, rfl, Ext.refl _⟩
    · -- 8: t50 := extract t42 1 
      intro ac wx hE hsz hdf h
      obtain ⟨v42, e42, s42⟩ : ∃ v, ac.tmps[42]? = some v ∧ (PairB k v) := h 42 (by decide +kernel)
      clear h hsz hdf
      obtain ⟨b4, rfl⟩ := s42
      go_wp2
      exact ⟨_, rfl, ⟨_, rfl⟩, Ext.refl _⟩
    · -- 9: t8 := assign t49 
      intro ac wx hE hsz hdf h
      have e49 : ac.tmps[49]? = some (.int .i64 k) := by obtain ⟨v, h1, h2⟩ := h 49 (by decide +kernel); rw [h1]; exact congrArg some h2
      clear h hsz hdf
      go_wp2
      exact ⟨_, rfl, rfl, Ext.refl _⟩
    · -- 10: t9 := assign t50 
      intro ac wx hE hsz hdf h
      obtain ⟨v50, e50, s50⟩ : ∃ v, ac.tmps[50]? = some v ∧ (BoolV v) := h 50 (by decide +kernel)
      clear h hsz hdf
      go_wp2
      exact ⟨_, rfl, s50, Ext.refl _⟩
    · intro ac w9 hE hsz hdf h hrest
      obtain ⟨v0, s0, g0⟩ := h 0 _ rfl
      have e0 := g0 43 rfl
      obtain rfl : v0 = .pointer (some ⟨tb, 0, none⟩) := s0
      obtain ⟨v1, s1, g1⟩ := h 1 _ rfl
      have e1 := g1 44 rfl
      obtain rfl : v1 = .pointer (some ⟨tb, 0, none⟩) := s1
      obtain ⟨v2, s2, g2⟩ := h 2 _ rfl
      have e2 := g2 45 rfl
      obtain rfl : v2 = .pointer (some ⟨tb, 1, none⟩) := s2
      obtain ⟨v3, s3, g3⟩ := h 3 _ rfl
      have e3 := g3 46 rfl
      obtain rfl : v3 = .slice A' n1 c' := s3
      obtain ⟨v4, s4, g4⟩ := h 4 _ rfl
      have e4 := g4 47 rfl
      obtain rfl : v4 = .agg #[.int .i64 at', .int .i64 key] := s4
      obtain ⟨v5, s5, g5⟩ := h 5 _ rfl
      have e5 := g5 48 rfl
      replace s5 : PairB k v5 := s5
      obtain ⟨v6, s6, g6⟩ := h 6 _ rfl
      have e6 := g6 42 rfl
      replace s6 : PairB k v6 := s6
      obtain ⟨v7, s7, g7⟩ := h 7 _ rfl
      have e7 := g7 49 rfl
      obtain rfl : v7 = .int .i64 k := s7
      obtain ⟨v8, s8, g8⟩ := h 8 _ rfl
      have e8 := g8 50 rfl
      replace s8 : BoolV v8 := s8
      obtain ⟨v9, s9, g9⟩ := h 9 _ rfl
      have e9 := g9 8 rfl
      obtain rfl : v9 = .int .i64 k := s9
      obtain ⟨v10, s10, g10⟩ := h 10 _ rfl
      have e10 := g10 9 rfl
      replace s10 : BoolV v10 := s10
      have ha := act_of [(43, .pointer (some ⟨tb, 0, none⟩)), (44, .pointer (some ⟨tb, 0, none⟩)), (45, .pointer (some ⟨tb, 1, none⟩)), (46, .slice A' n1 c'), (47, .agg #[.int .i64 at', .int .i64 key]), (48, v5), (42, v6), (49, .int .i64 k), (50, v8), (8, .int .i64 k), (9, v10)] rfl hsz hdf (by intro p hp; simp only [List.mem_cons, List.not_mem_nil, or_false] at hp; rcases hp with rfl | rfl | rfl | rfl | rfl | rfl | rfl | rfl | rfl | rfl | rfl <;> first | exact e0 | exact e1 | exact e2 | exact e3 | exact e4 | exact e5 | exact e6 | exact e7 | exact e8 | exact e9 | exact e10) hrest
      clear h hrest hsz hdf e0 e1 e2 e3 e4 e5 e6 e7 e8 e9 e10 g0 g1 g2 g3 g4 g5 g6 g7 g8 g9 g10
      subst ha
      simp only [List.foldl_cons, List.foldl_nil, Act.put, List.setIfInBounds_toArray, List.set_cons_succ, List.set_cons_zero]
    -- GAD TmSet7
      obtain ⟨w3, hw3⟩ : ∃ w3, w3 = w9 := ⟨_, rfl⟩
      subst hw3
      have hT3 := HT2.out.keep hE
      have hXB3 := HXB.out.keep hE
      have hO3 := hT3.own
      have hb3 := hT3.blk
      have hy1 : w3.cell? ⟨tb, 1, none⟩ = some (.slice A' n1 c') := hb3.cell 1
      have hz0 : w3.cell? ⟨xb, 0, none⟩ = some (.int .i64 at') := hXB3.cell 0
      have hz1 : w3.cell? ⟨xb, 1, none⟩ = some (.int .i64 key) := hXB3.cell 1
      have hap : (Value.slice A' n1 c').ownBlock ≠ some tb := hO3.apart hb3 (by decide +kernel)
      have hapm : tb ∉ (Value.slice A' n1 c').ownBlock.toList := fun hm => hap (by simpa using hm)
      have hlo8 : ∀ y ∈ (Value.slice A' n1 c').ownBlock.toList, y < w3.heap.size := fun y hy => (hO3.lt (by simpa using hy)).2
      have htb3 := hb3.lt
      have hBtb := hT3.low
      have hxbX : xb ∉ (Value.slice A' n1 c').ownBlock.toList ++ [tb] := fun hm => by
        rcases List.mem_append.1 hm with hm | hm
        · have := (hoc xb (by simpa using hm)).2; omega
        · simp at hm; omega
      obtain ⟨L2, hL2⟩ : ∃ M, M = L1.take k ++ (at', key) :: L1.drop k := ⟨_, rfl⟩
      have HL2 := Lib.hid hL2
      have hn16' : L1.length ≤ 1000 := by have := HN1L.out; omega
      have hE3 := hE
      clear hE hL2 hXB3 hT3 x0' x1' y1'
      go_wp2
      -- DAG TmSet8
      refine wp_region_dagQ (X := fun j => if j = 8 then (Value.slice A' n1 c').ownBlock.toList else if j = 11 then [tb] else []) (XX := ((Value.slice A' n1 c').ownBlock.toList ++ [tb])) (late := fun j => if j = 4 then [8, 11] else if j = 8 then [11] else if j = 11 then [] else []) (Pre := fun i w => (i = 4 → w.cell? ⟨tb, 1, none⟩ = some (.slice A' n1 c')) ∧ (i = 8 → TlAt w B (.slice A' n1 c') L1) ∧ (i = 11 → Blk w tb 113 [.int .i64 now, .slice A' n1 c']) ∧ True) (w0 := w3) (Φ := fun i v w => match i with | 0 => (v = .pointer (some ⟨tb, 0, none⟩)) | 1 => (v = .pointer (some ⟨tb, 0, none⟩)) | 2 => (v = .pointer (some ⟨tb, 0, none⟩)) | 3 => (v = .pointer (some ⟨tb, 1, none⟩)) | 4 => (v = .slice A' n1 c') | 5 => (v = .int .i64 k) | 6 => (v = .agg #[.int .i64 at', .int .i64 key]) | 7 => (∃ vb : Nat, v = .slice (some ⟨vb, 0, none⟩) 1 1 ∧ Blk w vb 115 [.int .i64 at', .int .i64 key] ∧ w3.heap.size ≤ vb) | 8 => (TlAt w B v L2 ∧ v.ownBlock ≠ some tb ∧ (∀ j, v.ownBlock = some j → (Value.slice A' n1 c').ownBlock = some j ∨ w3.heap.size ≤ j)) | 9 => (v = .pointer (some ⟨tb, 0, none⟩)) | 10 => (v = .pointer (some ⟨tb, 1, none⟩)) | 11 => (∃ u, Blk w tb 113 [.int .i64 now, u] ∧ TlAt w B u L2 ∧ (∀ j, u.ownBlock = some j → (Value.slice A' n1 c').ownBlock = some j ∨ w3.heap.size ≤ j)) | _ => True) (show Tryd.prog.follows .mixedOrders = true from Checked.mixed Tryd.checked) 62 rfl (by decide +kernel) ?_ ?_ ?_ ?_ ?_ ⟨?_, ?_, ?_, ?_, ?_, ?_, ?_, ?_, ?_, ?_, ?_, ?_, trivial⟩ ?_
      · intro j x hx
        by_cases hj8 : j = 8
        · subst hj8; have hx' : x ∈ (Value.slice A' n1 c').ownBlock.toList := hx; first | exact hx' | (rw [List.mem_append]; first | exact .inl hx' | exact .inr hx')
        by_cases hj11 : j = 11
        · subst hj11; have hx' : x ∈ [tb] := hx; first | exact hx' | (rw [List.mem_append]; first | exact .inl hx' | exact .inr hx')
        simp [hj8, hj11] at hx
      · intro j
        by_cases hj4 : j = 4
        · subst hj4; decide +kernel
        by_cases hj8 : j = 8
        · subst hj8; decide +kernel
        by_cases hj11 : j = 11
        · subst hj11; decide +kernel
        simp [hj4, hj8, hj11, lateOk]
      · intro i
        exact ⟨fun _ => hy1, fun _ => hO3.keep ((Below.refl _ _).drew), fun _ => hb3.keep ((Below.refl _ _).drew), trivial⟩
      · intro i j w w' hij hnl h hc
        refine ⟨?_, ?_, ?_, trivial⟩
        · intro hi
          subst hi
          have hp := h.1 rfl
          have hc' : Chg [] w w' := hc.mono (fun x hx => by
            by_cases hj8 : j = 8
            · subst hj8; exact absurd (by decide) hnl
            by_cases hj11 : j = 11
            · subst hj11; exact absurd (by decide) hnl
            simp [hj8, hj11] at hx)
          exact hc'.cell hp (by simp)
        · intro hi
          subst hi
          have hp := h.2.1 rfl
          have hc' : Chg [] w w' := hc.mono (fun x hx => by
            by_cases hj8 : j = 8
            · exact absurd hj8 (by omega)
            by_cases hj11 : j = 11
            · subst hj11; exact absurd (by decide) hnl
            simp [hj8, hj11] at hx)
          exact hp.chg hc' (by simp)
        · intro hi
          subst hi
          have hp := h.2.2.1 rfl
          have hc' : Chg ((Value.slice A' n1 c').ownBlock.toList) w w' := hc.mono (fun x hx => by
            by_cases hj8 : j = 8
            · subst hj8; have hx' : x ∈ (Value.slice A' n1 c').ownBlock.toList := hx; first | exact hx' | (rw [List.mem_append]; first | exact .inl hx' | exact .inr hx')
            by_cases hj11 : j = 11
            · exact absurd hj11 (by omega)
            simp [hj8, hj11] at hx)
          exact hp.chg hc' hapm
      · intro i j v w w' hij hla h hc
        by_cases hj8 : j = 8
        · subst hj8
          have hc' : Chg (Value.slice A' n1 c').ownBlock.toList w w' := hc
          match i, hij, hla, h with
          | 0, _, _, h => exact h
          | 1, _, _, h => exact h
          | 2, _, _, h => exact h
          | 3, _, _, h => exact h
          | 4, _, _, h => exact h
          | 5, _, _, h => exact h
          | 6, _, _, h => exact h
          | 7, _, _, h => exact (by obtain ⟨vb, g1, g2, g3⟩ := h; exact ⟨vb, g1, g2.chg hc' (fun hm => by have := hlo8 vb hm; omega), g3⟩)
          | 8, hij, _, _ => exact absurd rfl hij
          | 9, _, _, h => exact h
          | 10, _, _, h => exact h
          | 11, _, hla, _ => exact absurd (by decide) hla
          | _ + 12, _, _, _ => trivial
        by_cases hj11 : j = 11
        · subst hj11
          have hc' : Chg [tb] w w' := hc
          match i, hij, hla, h with
          | 0, _, _, h => exact h
          | 1, _, _, h => exact h
          | 2, _, _, h => exact h
          | 3, _, _, h => exact h
          | 4, _, _, h => exact h
          | 5, _, _, h => exact h
          | 6, _, _, h => exact h
          | 7, _, _, h => exact (by obtain ⟨vb, g1, g2, g3⟩ := h; exact ⟨vb, g1, g2.chg hc' (fun hm => by simp at hm; omega), g3⟩)
          | 8, _, _, h => exact ⟨h.1.chg hc' (fun j hj hm => by simp at hm; subst hm; exact h.2.1 hj), h.2⟩
          | 9, _, _, h => exact h
          | 10, _, _, h => exact h
          | 11, hij, _, _ => exact absurd rfl hij
          | _ + 12, _, _, _ => trivial
        have hc0 : Chg [] w w' := by simpa [hj8, hj11] using hc
        have hE : Ext w w' := hc0.ext (by simp)
        match i, h with
        | 0, h => exact h
        | 1, h => exact h
        | 2, h => exact h
        | 3, h => exact h
        | 4, h => exact h
        | 5, h => exact h
        | 6, h => exact h
        | 7, h => exact (by obtain ⟨vb, g1, g2, g3⟩ := h; exact ⟨vb, g1, g2.keep hE, g3⟩)
        | 8, h => exact ⟨h.1.keep hE, h.2⟩
        | 9, h => exact h
        | 10, h => exact h
        | 11, h => exact (by obtain ⟨u, g1, g2, g3⟩ := h; exact ⟨u, g1.keep hE, g2.keep hE, g3⟩)
        | _ + 12, _ => trivial
      · -- 0: t51 := move t0 
        intro ac wx hE hP hsz hdf h
        have e0 : ac.tmps[0]? = some (.pointer (some ⟨tb, 0, none⟩)) := by obtain ⟨v, h1, h2⟩ := h 0 (by decide +kernel); exact h1.trans (h2.symm.trans rfl)
        clear h hsz hdf
        go_wp2
        exact ⟨_, rfl, rfl, Chg.refl _ _⟩
      · -- 1: t52 := move t0 
        intro ac wx hE hP hsz hdf h
        have e0 : ac.tmps[0]? = some (.pointer (some ⟨tb, 0, none⟩)) := by obtain ⟨v, h1, h2⟩ := h 0 (by decide +kernel); exact h1.trans (h2.symm.trans rfl)
        clear h hsz hdf
        go_wp2
        exact ⟨_, rfl, rfl, Chg.refl _ _⟩
      · -- 2: t53 := nilCheck t52 
        intro ac wx hE hP hsz hdf h
        have e52 : ac.tmps[52]? = some (.pointer (some ⟨tb, 0, none⟩)) := by obtain ⟨v, h1, h2⟩ := h 52 (by decide +kernel); rw [h1]; exact congrArg some h2
        clear h hsz hdf
        go_wp2
        exact ⟨_, rfl, rfl, Chg.refl _ _⟩
      · -- 3: t54 := fieldAddr 113 t53 1 
        intro ac wx hE hP hsz hdf h
        have e53 : ac.tmps[53]? = some (.pointer (some ⟨tb, 0, none⟩)) := by obtain ⟨v, h1, h2⟩ := h 53 (by decide +kernel); rw [h1]; exact congrArg some h2
        clear h hsz hdf
        go_wp2
        exact ⟨_, rfl, rfl, Chg.refl _ _⟩
      · -- 4: t55 := load 111 t54 
        intro ac wx hE hP hsz hdf h
        have e54 : ac.tmps[54]? = some (.pointer (some ⟨tb, 1, none⟩)) := by obtain ⟨v, h1, h2⟩ := h 54 (by decide +kernel); rw [h1]; exact congrArg some h2
        clear h hsz hdf
        have hy4 := hP.1 rfl
        go_wp2
        exact ⟨_, rfl, rfl, Chg.refl _ _⟩
      · -- 5: t56 := move t8 
        intro ac wx hE hP hsz hdf h
        have e8 : ac.tmps[8]? = some (.int .i64 k) := by obtain ⟨v, h1, h2⟩ := h 8 (by decide +kernel); exact h1.trans (h2.symm.trans rfl)
        clear h hsz hdf
        go_wp2
        exact ⟨_, rfl, rfl, Chg.refl _ _⟩
      · -- 6: t57 := load 115 t7 
        intro ac wx hE hP hsz hdf h
        have e7 : ac.tmps[7]? = some (.pointer (some ⟨xb, 0, none⟩)) := by obtain ⟨v, h1, h2⟩ := h 7 (by decide +kernel); exact h1.trans (h2.symm.trans rfl)
        clear h hsz hdf
        have y1 := hE.cell (a := ⟨xb, 0, none⟩) hz0 hxbX; have y2 := hE.cell (a := ⟨xb, 1, none⟩) hz1 hxbX
        go_wp2
        exact ⟨_, rfl, rfl, Chg.refl _ _⟩
      · -- 7: t58 := buildSlice 111 1 #[(0, t57)] 
        intro ac wx hE hP hsz hdf h
        have e57 : ac.tmps[57]? = some (.agg #[.int .i64 at', .int .i64 key]) := by obtain ⟨v, h1, h2⟩ := h 57 (by decide +kernel); rw [h1]; exact congrArg some h2
        clear h hsz hdf
        go_wp2
        exact ⟨_, rfl, ⟨_, rfl, Blk.newL wx 115 [.int .i64 at', .int .i64 key], hE.size⟩, .of_ext (Ext.new1 _ _)⟩
      · -- 8: t59 := call { value (Operand.func 74), args := #[t55, t56, t58], argTypes := #[111, 3, 111] } 
        intro ac wx hE hP hsz hdf h
        have e55 : ac.tmps[55]? = some (.slice A' n1 c') := by obtain ⟨v, h1, h2⟩ := h 55 (by decide +kernel); rw [h1]; exact congrArg some h2
        have e56 : ac.tmps[56]? = some (.int .i64 k) := by obtain ⟨v, h1, h2⟩ := h 56 (by decide +kernel); rw [h1]; exact congrArg some h2
        obtain ⟨v58, e58, s58⟩ : ∃ v, ac.tmps[58]? = some v ∧ (∃ vb : Nat, v = .slice (some ⟨vb, 0, none⟩) 1 1 ∧ Blk wx vb 115 [.int .i64 at', .int .i64 key] ∧ w3.heap.size ≤ vb) := h 58 (by decide +kernel)
        clear h hsz hdf
        obtain ⟨vb, rfl, hvb8, hvb9⟩ := s58; have ho8 := hP.2.1 rfl; have hsz8 := hE.size
        go_wp2_with ((go_at_call 74; refine (tmInsert ho8 (at', key) k vb HK.out.1 hvb8 (fun he => by have := hlo8 vb (by simpa using he); omega) (by omega) (by omega)).mono ?_; rintro e w' ⟨v9, rfl, h8, hc8, hn8⟩))
        exact ⟨_, rfl, ⟨by rw [HL2.out]; exact h8, fun he => by rcases hn8 with hn8 | hn8 <;> rw [hn8] at he; exact hap he; injection he with he; omega, fun j hj => by rcases hn8 with hn8 | hn8 <;> rw [hn8] at hj; exact .inl hj; injection hj with hj; exact .inr (by omega)⟩, hc8⟩
      · -- 9: t60 := nilCheck t51 
        intro ac wx hE hP hsz hdf h
        have e51 : ac.tmps[51]? = some (.pointer (some ⟨tb, 0, none⟩)) := by obtain ⟨v, h1, h2⟩ := h 51 (by decide +kernel); rw [h1]; exact congrArg some h2
        clear h hsz hdf
        go_wp2
        exact ⟨_, rfl, rfl, Chg.refl _ _⟩
      · -- 10: t61 := fieldAddr 113 t60 1 
        intro ac wx hE hP hsz hdf h
        have e60 : ac.tmps[60]? = some (.pointer (some ⟨tb, 0, none⟩)) := by obtain ⟨v, h1, h2⟩ := h 60 (by decide +kernel); rw [h1]; exact congrArg some h2
        clear h hsz hdf
        go_wp2
        exact ⟨_, rfl, rfl, Chg.refl _ _⟩
      · -- 11: tNone := store 111 t61 t59 
        intro ac wx hE hP hsz hdf h
        have e61 : ac.tmps[61]? = some (.pointer (some ⟨tb, 1, none⟩)) := by obtain ⟨v, h1, h2⟩ := h 61 (by decide +kernel); rw [h1]; exact congrArg some h2
        obtain ⟨v59, e59, s59⟩ : ∃ v, ac.tmps[59]? = some v ∧ (TlAt wx B v L2 ∧ v.ownBlock ≠ some tb ∧ (∀ j, v.ownBlock = some j → (Value.slice A' n1 c').ownBlock = some j ∨ w3.heap.size ≤ j)) := h 59 (by decide +kernel)
        clear h hsz hdf
        obtain ⟨A9, n9, c9, rfl⟩ := s59.1.sh; have hb11 := hP.2.2.1 rfl; have f11 := hb11.frozen 1; have y11 : wx.cell? ⟨tb, 1, none⟩ = some (.slice A' n1 c') := hb11.cell 1
        go_wp2
        exact ⟨⟨_, by simpa using hb11.set_ 1 (.slice A9 n9 c9), s59.1.chg ((Chg.refl [tb] wx).setCell (by simp) _) (fun j hj hm => by simp at hm; subst hm; exact s59.2.1 hj), s59.2.2⟩, (Chg.refl [tb] wx).setCell (by simp) _⟩
      · intro ac w9 hE hsz hdf h hrest
        obtain ⟨v0, s0, g0⟩ := h 0 _ rfl
        have e0 := g0 51 rfl
        obtain rfl : v0 = .pointer (some ⟨tb, 0, none⟩) := s0
        obtain ⟨v1, s1, g1⟩ := h 1 _ rfl
        have e1 := g1 52 rfl
        obtain rfl : v1 = .pointer (some ⟨tb, 0, none⟩) := s1
        obtain ⟨v2, s2, g2⟩ := h 2 _ rfl
        have e2 := g2 53 rfl
        obtain rfl : v2 = .pointer (some ⟨tb, 0, none⟩) := s2
        obtain ⟨v3, s3, g3⟩ := h 3 _ rfl
        have e3 := g3 54 rfl
        obtain rfl : v3 = .pointer (some ⟨tb, 1, none⟩) := s3
        obtain ⟨v4, s4, g4⟩ := h 4 _ rfl
        have e4 := g4 55 rfl
        obtain rfl : v4 = .slice A' n1 c' := s4
        obtain ⟨v5, s5, g5⟩ := h 5 _ rfl
        have e5 := g5 56 rfl
        obtain rfl : v5 = .int .i64 k := s5
        obtain ⟨v6, s6, g6⟩ := h 6 _ rfl
        have e6 := g6 57 rfl
        obtain rfl : v6 = .agg #[.int .i64 at', .int .i64 key] := s6
        obtain ⟨v7, s7, g7⟩ := h 7 _ rfl
        have e7 := g7 58 rfl
        replace s7 : ∃ vb : Nat, v7 = .slice (some ⟨vb, 0, none⟩) 1 1 ∧ Blk w9 vb 115 [.int .i64 at', .int .i64 key] ∧ w3.heap.size ≤ vb := s7
        obtain ⟨v8, s8, g8⟩ := h 8 _ rfl
        have e8 := g8 59 rfl
        replace s8 : TlAt w9 B v8 L2 ∧ v8.ownBlock ≠ some tb ∧ (∀ j, v8.ownBlock = some j → (Value.slice A' n1 c').ownBlock = some j ∨ w3.heap.size ≤ j) := s8
        obtain ⟨v9, s9, g9⟩ := h 9 _ rfl
        have e9 := g9 60 rfl
        obtain rfl : v9 = .pointer (some ⟨tb, 0, none⟩) := s9
        obtain ⟨v10, s10, g10⟩ := h 10 _ rfl
        have e10 := g10 61 rfl
        obtain rfl : v10 = .pointer (some ⟨tb, 1, none⟩) := s10
        obtain ⟨v11, s11, -⟩ := h 11 _ rfl
        replace s11 : ∃ u, Blk w9 tb 113 [.int .i64 now, u] ∧ TlAt w9 B u L2 ∧ (∀ j, u.ownBlock = some j → (Value.slice A' n1 c').ownBlock = some j ∨ w3.heap.size ≤ j) := s11
        have ha := act_of [(51, .pointer (some ⟨tb, 0, none⟩)), (52, .pointer (some ⟨tb, 0, none⟩)), (53, .pointer (some ⟨tb, 0, none⟩)), (54, .pointer (some ⟨tb, 1, none⟩)), (55, .slice A' n1 c'), (56, .int .i64 k), (57, .agg #[.int .i64 at', .int .i64 key]), (58, v7), (59, v8), (60, .pointer (some ⟨tb, 0, none⟩)), (61, .pointer (some ⟨tb, 1, none⟩))] rfl hsz hdf (by intro p hp; simp only [List.mem_cons, List.not_mem_nil, or_false] at hp; rcases hp with rfl | rfl | rfl | rfl | rfl | rfl | rfl | rfl | rfl | rfl | rfl <;> first | exact e0 | exact e1 | exact e2 | exact e3 | exact e4 | exact e5 | exact e6 | exact e7 | exact e8 | exact e9 | exact e10) hrest
        clear h hrest hsz hdf e0 e1 e2 e3 e4 e5 e6 e7 e8 e9 e10 g0 g1 g2 g3 g4 g5 g6 g7 g8 g9 g10
        subst ha
        simp only [List.foldl_cons, List.foldl_nil, Act.put, List.setIfInBounds_toArray, List.set_cons_succ, List.set_cons_zero]
      -- GAD TmSet8
        have hc3 := hE
        clear hE
        go_wp2
        go_ret
        obtain ⟨u, hbu, hou, hju⟩ := s11
        have hL2 := HL2.out
        have hp2 : L2.Perm ((at', key) :: L1) := by rw [hL2]; exact ins_perm _ _ _
        have hkn : ∀ y ∈ L1, y.2 ≠ key := fun y hy => by
          rw [← HL1.out] at hy
          have := (List.mem_filter.1 hy).2
          simpa using this
        have hke : (L2.map (·.2)).Nodup := by
          refine (hp2.map (·.2)).nodup_iff.2 ?_
          rw [List.map_cons, List.nodup_cons]
          refine ⟨fun hm => ?_, HT2.out.keys⟩
          obtain ⟨y, hy, he⟩ := List.mem_map.1 hm
          exact hkn y hy he
        have hso : sortP L2 := by rw [hL2]; exact sort_ins HS1.out hkn HK.out
        have hln : L2.length ≤ 16 := by
          rw [hp2.length_eq, List.length_cons]
          exact HLEN.out L1 HL1.out
        refine ⟨rfl, L2, ⟨u, ⟨hbu, hou, hBtb, hso, hln, hke⟩, (HCW.out.trans (.of_ext hE3)).more hc3 (fun y hy => ?_), fun j hj => ?_⟩, by rw [HL1.out]; exact hp2⟩
        · rcases List.mem_append.1 hy with hy | hy
          · rcases hnw y (by simpa using hy) with h | h
            · exact .inl (List.mem_cons_of_mem _ (by simpa using h))
            · exact .inr h
          · exact .inl (by simp at hy; simp [hy])
        · rcases hju j hj with h | h
          · exact hnw j h
          · exact .inr (Nat.le_trans (Nat.le_trans HCW.out.size hE3.size) h)
end Go.Proofs.YtnbdmlpnoiljdaaDoor
