/- The document's timers: Set whatever is asked, Tick. -/
import Derived.Test.YtnbdmlpnoiljdaaDoorTm15
namespace Go.Proofs.YtnbdmlpnoiljdaaDoor
open Go Go.RowKit

set_option maxHeartbeats 1000000 in
theorem refSetRange {w : World} {B mb : Nat} {v : Value} {now : Int} {M : List (Int × Int)} (h : ModAt w B mb v now M) (key at' : Int) (h1 : at' < now ∨ 1099511627776 < at') :
    Calls Tryd.prog 44 #[.pointer (some ⟨mb, 0, none⟩), .int .i64 key, .int .i64 at'] w fun e w' => e = .returned (.int .i64 1) ∧ w' = w := by
  have e0 : w.cell? ⟨mb, 0, none⟩ = some (.int .i64 now) := h.blk.cell 0
  have hd : decide (at' < now) = true ∨ (decide (at' < now) = false ∧ decide (1099511627776 < at') = true) := by
    by_cases hlt : at' < now
    · exact .inl (decide_eq_true hlt)
    · exact .inr ⟨decide_eq_false hlt, decide_eq_true (by omega)⟩
  clear h h1
  rcases hd with d1 | ⟨d1, d2⟩
  all_goals
    go_enter Tryd.func44, Tryd.ntmps44
    go_wp2
    go_ret
    exact ⟨rfl, rfl⟩

set_option maxHeartbeats 1000000 in
theorem refSetFull {w : World} {B mb : Nat} {v : Value} {now : Int} {M : List (Int × Int)} (h : ModAt w B mb v now M) (key at' : Int) (h1 : now ≤ at') (h2 : at' ≤ 1099511627776) (hno : ∀ y ∈ M, y.2 ≠ key) (h16 : M.length = 16) :
    Calls Tryd.prog 44 #[.pointer (some ⟨mb, 0, none⟩), .int .i64 key, .int .i64 at'] w fun e w' => e = .returned (.int .i64 2) ∧ Ext w w' := by
  have HH := Lib.hid h
  have e0 : w.cell? ⟨mb, 0, none⟩ = some (.int .i64 now) := h.blk.cell 0
  have d1 : decide (at' < now) = false := decide_eq_false (by omega)
  have d2 : decide (1099511627776 < at') = false := decide_eq_false (by omega)
  obtain ⟨A0, c0, hv, _, _, _⟩ := h.own.rd
  have e1 : w.cell? ⟨mb, 1, none⟩ = some (.slice A0 16 c0) := by rw [← h16, ← hv]; exact h.blk.cell 1
  have hmb := h.blk.lt
  obtain ⟨b, hat, hb⟩ := refAtB h (by omega) key
  obtain rfl : b = false := by
    rcases hb with ⟨_, x, hx, he⟩ | ⟨hb, _⟩
    · exact absurd he (hno x hx)
    · exact hb
  have HA := Lib.hid hat
  clear h h1 h2 hno h16 hat hb hv
  go_enter Tryd.func44, Tryd.ntmps44
  go_wp2_with (go_at_call 51; go_loud (refine HA.out.mono ?_); rintro e w3 ⟨a3, rfl, hx3⟩; have x1 := (hx3.cell (p := ⟨mb, 1, none⟩) hmb).trans e1)
  go_ret
  exact ⟨rfl, hx3⟩

theorem refSet {w : World} {B mb : Nat} {v : Value} {now : Int} {M : List (Int × Int)} (h : ModAt w B mb v now M) (hlen : M.length ≤ 100) (key at' : Int) :
    Calls Tryd.prog 44 #[.pointer (some ⟨mb, 0, none⟩), .int .i64 key, .int .i64 at'] w fun e w' => ∃ c M', e = .returned (.int .i64 c) ∧ SetMod now key at' M M' c ∧ ModTurned w w' B mb v now M' := by
  by_cases h1 : at' < now ∨ 1099511627776 < at'
  · refine (refSetRange h key at' h1).mono ?_
    rintro e w' ⟨rfl, rfl⟩
    exact ⟨1, M, rfl, .inl ⟨h1, rfl, rfl⟩, .of_ext h (Ext.refl _)⟩
  have h2 : now ≤ at' := by omega
  have h3 : at' ≤ 1099511627776 := by omega
  by_cases hr : (∃ x ∈ M, x.2 = key) ∨ M.length ≠ 16
  · refine (refSetOk h hlen key at' h2 h3 hr).mono ?_
    rintro e w' ⟨rfl, ht⟩
    exact ⟨0, _, rfl, .inr (.inr ⟨h2, h3, hr, rfl, rfl⟩), ht⟩
  · have h16 : M.length = 16 := by
      by_cases h : M.length = 16
      · exact h
      · exact absurd (.inr h) hr
    have hno : ∀ y ∈ M, y.2 ≠ key := fun y hy he => hr (.inl ⟨y, hy, he⟩)
    refine (refSetFull h key at' h2 h3 hno h16).mono ?_
    rintro e w' ⟨rfl, hx⟩
    exact ⟨2, M, rfl, .inr (.inl ⟨h2, h3, hno, h16, rfl, rfl⟩), .of_ext h hx⟩

theorem refFirst0 {w : World} {B mb : Nat} {v : Value} {now : Int} {M : List (Int × Int)} (h : ModAt w B mb v now M) (hp : M.Perm []) :
    Calls Tryd.prog 49 #[.pointer (some ⟨mb, 0, none⟩)] w fun e w' => e = .returned (.tuple #[.int .i64 0, .int .i64 0, .bool false]) ∧ Ext w w' := by
  obtain rfl := List.perm_nil.1 hp
  refine (refFirst h (by simp)).mono ?_
  rintro e w' ⟨k, a, b, rfl, hf, hx⟩
  rcases hf with ⟨_, rfl, rfl, rfl⟩ | ⟨hm, _⟩
  · exact ⟨rfl, hx⟩
  · exact absurd hm.1 (by simp)
theorem refFirst1 {w : World} {B mb : Nat} {v : Value} {now : Int} {M : List (Int × Int)} {x : Int × Int} {r : List (Int × Int)} (h : ModAt w B mb v now M) (hlen : M.length ≤ 1000) (hp : M.Perm (x :: r)) (hs : sortP (x :: r)) :
    Calls Tryd.prog 49 #[.pointer (some ⟨mb, 0, none⟩)] w fun e w' => e = .returned (.tuple #[.int .i64 x.2, .int .i64 x.1, .bool true]) ∧ Ext w w' := by
  refine (refFirst h hlen).mono ?_
  rintro e w' ⟨k, a, b, rfl, hf, hx⟩
  rcases hf with ⟨rfl, _⟩ | ⟨hm, rfl⟩
  · exact absurd hp.length_eq (by simp)
  · have := isMin_head hs hp hm
    subst this
    exact ⟨rfl, hx⟩

set_option maxHeartbeats 1000000 in
theorem refTickRange {w : World} {B mb : Nat} {v : Value} {now : Int} {M : List (Int × Int)} (h : ModAt w B mb v now M) (n : Int) (hn : -9223372036854775808 ≤ n ∧ n ≤ 9223372036854775807) (_h0 : 0 ≤ now) (_h9 : now ≤ 1099511627776) (hbad : n < 0 ∨ 1099511627776 - now < n) :
    Calls Tryd.prog 47 #[.pointer (some ⟨mb, 0, none⟩), .int .i64 n] w fun e w' => e = .returned (.tuple #[.slice none 0 0, .int .i64 1]) ∧ w' = w := by
  have e0 : w.cell? ⟨mb, 0, none⟩ = some (.int .i64 now) := h.blk.cell 0
  clear h
  by_cases hlt : n < 0
  · clear hbad
    have d1 : decide (n < 0) = true := decide_eq_true hlt
    clear hlt
    go_enter Tryd.func47, Tryd.ntmps47
    go_wp2
    go_ret2
    exact ⟨rfl, rfl⟩
  · have d1 : decide (n < 0) = false := decide_eq_false hlt
    have hw : IntKind.i64.wrap (1099511627776 - n) = 1099511627776 - n := wrap_id (by omega) (by omega)
    have d2 : decide (1099511627776 - n < now) = true := decide_eq_true (by omega)
    clear hbad hlt hn
    go_enter Tryd.func47, Tryd.ntmps47
    go_wp2
    go_ret2
    exact ⟨rfl, rfl⟩

set_option maxHeartbeats 4000000 in
set_option maxRecDepth 20000 in
theorem refTickOk {w : World} {B mb : Nat} {v : Value} {now : Int} {M L : List (Int × Int)} (h : ModAt w B mb v now M) (hlen : L.length ≤ 100) (hp : M.Perm L) (hs : sortP L) (hk : (L.map (·.2)).Nodup) (n T : Int) (h0 : 0 ≤ now) (h9 : now ≤ 1099511627776) (hn0 : 0 ≤ n) (hn9 : n ≤ 1099511627776 - now) (hT : now + n = T) :
    Calls Tryd.prog 47 #[.pointer (some ⟨mb, 0, none⟩), .int .i64 n] w fun e w' => ∃ A c D R M', e = .returned (.tuple #[.slice A D.length c, .int .i64 0]) ∧ Due L T D R ∧ M'.Perm R ∧
      w'.ownsRow w.heap.size 3 1 (.slice A D.length c) D.length (intsV (D.map (·.2))) ∧ ModTurned w w' B mb v T M' := by
  have e0 : w.cell? ⟨mb, 0, none⟩ = some (.int .i64 now) := h.blk.cell 0
  have f0 := h.blk.frozen 0
  have hc1 : Chg [mb] w (w.setCell ⟨mb, 0, none⟩ (.int .i64 T)) := (Chg.refl _ _).setCell (by simp) _
  have hap : v.ownBlock ≠ some mb := row_apart h.own h.blk (by decide +kernel)
  have hT1 : ModAt (w.setCell ⟨mb, 0, none⟩ (.int .i64 T)) B mb v T M := ⟨by simpa using h.blk.set_ 0 (.int .i64 T), h.own.chg hc1 (fun j hj hm => by simp at hm; subst hm; exact hap hj), h.low⟩
  have HT1 := Lib.hid hT1
  have HC1 := Lib.hid hc1
  have HP := Lib.hid hp
  have HS := Lib.hid hs
  have HK := Lib.hid hk
  have hmx : (IntKind.i64.wrap (now + n)) = T := by have := h0; have := h9; rw [hT]; exact wrap_id (by omega) (by omega)
  have d1 : decide (n < 0) = false := decide_eq_false (by omega)
  have hw : IntKind.i64.wrap (1099511627776 - n) = 1099511627776 - n := wrap_id (by omega) (by omega)
  have d2 : decide (1099511627776 - n < now) = false := decide_eq_false (by omega)
  clear h hap hT1 hc1 hp hs hk
  go_enter Tryd.func47, Tryd.ntmps47
  go_wp2
  have hsz1 : w.heap.size = (w.setCell ⟨mb, 0, none⟩ (.int .i64 T)).heap.size := by simp
  generalize w.setCell ⟨mb, 0, none⟩ (.int .i64 T) = w1 at *
  have HSZ := Lib.hid hsz1
  clear e0 f0 hmx hT d1 hw d2 hsz1
  go_loopw [6] (fun s6 wr => ∃ (k : Nat) (A : Option Addr) (c : Nat) (u : Value) (Mk : List (Int × Int)), s6 = .slice A k c ∧ k ≤ L.length ∧ (∀ y ∈ L.take k, y.1 ≤ T) ∧ wr.ownsRow w.heap.size 3 1 (.slice A k c) k (intsV ((L.take k).map (·.2))) ∧ Mk.Perm (L.drop k) ∧ ModAt wr B mb u T Mk ∧ Chg [mb] w wr ∧ (∀ j, u.ownBlock = some j → v.ownBlock = some j ∨ w.heap.size ≤ j)) (fun s6 _ => L.length - lenV s6)
  case atStart =>
    have ho := own_empty w1 3 1
    rw [← HSZ.out] at ho
    exact ⟨0, _, 0, v, M, rfl, Nat.zero_le _, by simp, ho, HP.out, HT1.out.keep (Ext.new1 _ _), HC1.out.trans (.of_ext (Ext.new1 _ _)), fun j hj => .inl hj⟩
  case round =>
    obtain ⟨k, A, c, u, Mk, rfl, hkL, hdue, hown, hpk, hTr, hcr, hur⟩ := hrel
    have HDUE := Lib.hid hdue
    have HOWN := Lib.hid hown
    have HTR := Lib.hid hTr
    have HCR := Lib.hid hcr
    have HUR := Lib.hid hur
    have HPK := Lib.hid hpk
    have e0 : wr.cell? ⟨mb, 0, none⟩ = some (.int .i64 T) := hTr.blk.cell 0
    have hmb : mb < wr.heap.size := hTr.blk.lt
    have hmk : Mk.length ≤ 1000 := by have := hpk.length_eq; simp at this; omega
    have hsr := hcr.size
    have hkl : (L.take k).length = k := by simp; omega
    have HKL := Lib.hid hkl
    clear hdue hown hTr hcr hur hpk hkl
    cases hR : L.drop k with
    | nil =>
      have HR := Lib.hid hR
      clear hR
      go_wp2_with (go_at_call 49; go_loud (refine (refFirst0 HTR.out (by rw [← HR.out]; exact HPK.out)).mono ?_); rintro e w2 ⟨rfl, hx2⟩)
      go_ret2
      refine ⟨A, c, L.take k, L.drop k, Mk, by rw [HKL.out]; first | done | rfl, ⟨(List.take_append_drop k L).symm, HDUE.out, ?_⟩, HPK.out, by rw [HKL.out]; exact own_ext HOWN.out hx2, u, HTR.out.keep hx2, HCR.out.trans (.of_ext hx2), HUR.out⟩
      intro y r' hy
      rw [HR.out] at hy
      cases hy
    | cons x r =>
      have HR := Lib.hid hR
      have hsR : sortP (x :: r) := by rw [← hR]; exact sort_sub HS.out (List.drop_sublist _ _)
      have hdR : ((x :: r).map (·.2)).Nodup := by rw [← hR]; exact nodup_sub HK.out (List.drop_sublist _ _)
      have HSR := Lib.hid hsR
      have HDR := Lib.hid hdR
      have hpR : Mk.Perm (x :: r) := by rw [← hR]; exact HPK.out
      have HPR := Lib.hid hpR
      have hlr : r.length + 1 + k = L.length := by have := congrArg List.length hR; simp at this; omega
      clear hR hsR hdR hpR
      by_cases hx : x.1 ≤ T
      · have hdx : decide (T < x.1) = false := decide_eq_false (by omega)
        have HX := Lib.hid hx
        clear hx
        go_wp2_with (first
          | (go_at_call 46; go_loud (refine (refDrop HT3.out hmk x.2).mono ?_); rintro e w4 ⟨b4, rfl, _, v4, hM4, hc4, hv4⟩; have HM4 := Lib.hid hM4; have HC4 := Lib.hid hc4; have HV4 := Lib.hid hv4; clear hM4 hc4 hv4)
          | (at_builtin; go_loud (refine wpList_app2 Tryd.elemI rfl (.tmp 47) (.tmp 49) rfl (v := .slice A k c) rfl (own_alloc HO2.out _) (by simp; omega) rfl (rd_one w2 (.int .i64 x.2) 3) (one_one rfl) (by omega) (by unfold maxLen; omega) ?_); intro v3 w3 hown3 hg3 _ hat3; obtain ⟨A3, c3, rfl, _, _, _⟩ := own_rd hown3; have hc3 : Chg (Value.slice A k c).ownBlock.toList w2 w3 := (Chg.of_ext (Ext.new1 _ _)).trans hg3.chg; have HC3 := Lib.hid hc3; have HT3 := Lib.hid (HT2.out.chg hc3 hap1 hap2); have HO3 := Lib.hid hown3; clear hown3 hg3 hat3 hc3)
          | (go_at_call 49; go_loud (refine (refFirst1 HTR.out hmk HPR.out HSR.out).mono ?_); rintro e w2 ⟨rfl, hx2⟩; have y0 := (hx2.cell (p := ⟨mb, 0, none⟩) hmb).trans e0; have HT2 := Lib.hid (HTR.out.keep hx2); have HO2 := Lib.hid (own_ext HOWN.out hx2); have hs2 := hx2.size; have hap1 : mb ∉ (Value.slice A k c).ownBlock.toList := (fun hj => row_apart HO2.out HT2.out.blk (by decide +kernel) (by simpa using hj)); have hap2 : ∀ j, u.ownBlock = some j → j ∉ (Value.slice A k c).ownBlock.toList := (fun j hj hm => rows_apart HT2.out.own HO2.out (by decide +kernel) j hj (by simpa using hm))))
        go_roundw
        case rel =>
          have hk1 : L[k]? = some x := by
            have := congrArg (·[0]?) HR.out
            simpa using this
          have hdr : L.drop (k + 1) = r := by
            have := congrArg (List.drop 1) HR.out
            simpa [List.drop_drop] using this
          have htk : L.take (k + 1) = L.take k ++ [x] := by rw [List.take_add_one, hk1]; rfl
          have hap4 : (Value.slice A3 (k + 1) c3).ownBlock ≠ some mb := row_apart HO3.out HT3.out.blk (by decide +kernel)
          refine ⟨k + 1, A3, c3, v4, dropK x.2 Mk, rfl, by omega, ?_, ?_, ?_, HM4.out, (((HCR.out.trans (.of_ext hx2)).more HC3.out (fun y hy => .inr (row_lt HO2.out (by simpa using hy)).1)).trans HC4.out), fun j hj => ?_⟩
          · rw [htk]
            intro y hy
            rcases List.mem_append.1 hy with hy | hy
            · exact HDUE.out y hy
            · simp at hy; subst hy; exact HX.out
          · rw [htk, List.map_append]
            have ho := own_chg HO3.out HC4.out (fun j hj hm => by simp at hm; subst hm; exact hap4 hj)
            simpa [intsV] using ho
          · rw [hdr]
            have := dropK_perm HPR.out x.2
            rwa [dropK_head HDR.out] at this
          · rcases HV4.out j hj with h | h
            · exact HUR.out j h
            · have := HC3.out.size
              exact .inr (by omega)
        case measure => simp [lenV]; omega
      · have hdx : decide (T < x.1) = true := decide_eq_true (by omega)
        have HX := Lib.hid hx
        clear hx
        go_wp2_with (go_at_call 49; go_loud (refine (refFirst1 HTR.out hmk HPR.out HSR.out).mono ?_); rintro e w2 ⟨rfl, hx2⟩; have y0 := (hx2.cell (p := ⟨mb, 0, none⟩) hmb).trans e0)
        go_ret2
        refine ⟨A, c, L.take k, L.drop k, Mk, by rw [HKL.out]; first | done | rfl, ⟨(List.take_append_drop k L).symm, HDUE.out, ?_⟩, HPK.out, by rw [HKL.out]; exact own_ext HOWN.out hx2, u, HTR.out.keep hx2, HCR.out.trans (.of_ext hx2), HUR.out⟩
        intro y r' hy
        rw [HR.out] at hy
        cases hy
        have := HX.out
        omega
end Go.Proofs.YtnbdmlpnoiljdaaDoor
