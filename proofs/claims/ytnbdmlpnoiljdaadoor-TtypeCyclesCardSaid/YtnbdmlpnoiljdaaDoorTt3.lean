/- layer 13: two lists put together; cycles. -/
import Derived.Test.YtnbdmlpnoiljdaaDoorTt2
import Derived.BigRegion
namespace Go.Proofs.YtnbdmlpnoiljdaaDoor
open Go Go.RowKit

set_option maxHeartbeats 1000000 in
set_option maxRecDepth 20000 in
theorem concatS (xs ys : List (List UInt8)) (A B : Option Addr) (n c m d g : Nat) (e : TypeId) (w : World) (hn : n ≤ 1000) (hm : m ≤ 1000) (hB : Blk w g e [.slice A n c, .slice B m d]) (hx : Rd w 1 A n (strsV xs)) (hy : Rd w 1 B m (strsV ys)) :
    Calls Tryd.prog 54 #[.slice (some ⟨g, 0, none⟩) 2 2] w fun e w' => ∃ v, e = .returned v ∧ w'.ownsRow w.heap.size 9 1 v (n + m) (strsV (xs ++ ys)) ∧ Ext w w' := by
  have c0 : w.cell? ⟨g, 0, none⟩ = some (.slice A n c) := hB.cell 0
  have c1 : w.cell? ⟨g, 1, none⟩ = some (.slice B m d) := hB.cell 1
  have hX := Lib.hid hx
  have hY := Lib.hid hy
  clear hx hy
  go_enter Tryd.func54, Tryd.ntmps54
  go_wp2
  refine wp_loop_rounds 3 ?_
  rw [rounds_succ]
  go_wp2
  rw [rounds_succ]
  go_wp2
  rw [rounds_succ]
  go_wp2_with (go_at_call 76; refine (growNilS (n + m) _ (by omega)).mono ?_; rintro e w1 ⟨v1, rfl, hown1, hb1⟩; have c01 := (hB.keep hb1).cell 0; have c11 := (hB.keep hb1).cell 1)
  refine wp_loop_rounds 3 ?_
  rw [rounds_succ]
  have hsz1 := hb1.size
  go_wp2_with (at_builtin; refine wpList_app2 Tryd.elemS rfl (.tmp 31) (.tmp 32) rfl rfl hown1 hsz1 rfl (hX.out.keep hb1) (one_strsV _) (by omega) (by unfold maxLen; omega) ?_; intro v2 w2 hown2 hg2 _ _; have hb2 : Ext w w2 := hg2.below hb1 (Nat.le_refl _) hsz1; have hsz2 := hb2.size; have c02 := (hB.keep hb2).cell 0; have c12 := (hB.keep hb2).cell 1)
  rw [rounds_succ]
  go_wp2_with (at_builtin; refine wpList_app2 Tryd.elemS rfl (.tmp 31) (.tmp 32) rfl rfl hown2 hsz2 rfl (hY.out.keep hb2) (one_strsV _) (by omega) (by unfold maxLen; omega) ?_; intro v3 w3 hown3 hg3 _ _; have hb3 : Ext w w3 := hg3.below hb2 (Nat.le_refl _) hsz2)
  rw [rounds_succ]
  go_wp2
  go_ret
  refine ⟨_, rfl, ?_, hb3⟩
  simpa [strsV] using hown3

/-- At a there is a cycle over the texts T, at place k. -/
structure CycAt (w : World) (a : Nat) (A : Option Addr) (c : Nat) (T : List (List UInt8)) (k : Nat) : Prop where
  blk : Blk w a 94 [.slice A T.length c, .int .i64 k]
  rd : Rd w 1 A T.length (strsV T)
  lt : k < T.length
  small : T.length ≤ 1000
  apart : ∀ b o v, A = some ⟨b, o, v⟩ → b ≠ a
theorem CycAt.keep {w w' : World} {a : Nat} {A : Option Addr} {c : Nat} {T : List (List UInt8)} {k : Nat} (h : CycAt w a A c T k) (hb : Ext w w') : CycAt w' a A c T k := ⟨h.blk.keep hb, h.rd.keep hb, h.lt, h.small, h.apart⟩
theorem CycAt.chg {w w' : World} {a : Nat} {A : Option Addr} {c : Nat} {T : List (List UInt8)} {k : Nat} {X : List Nat} (h : CycAt w a A c T k) (hc : Chg X w w') (hx : a ∉ X) (hx2 : ∀ b o v, A = some ⟨b, o, v⟩ → b ∉ X) : CycAt w' a A c T k := ⟨h.blk.chg hc hx, h.rd.chg hc fun _ => hx2, h.lt, h.small, h.apart⟩
theorem CycAt.set_ {w : World} {a : Nat} {A : Option Addr} {c : Nat} {T : List (List UInt8)} {k : Nat} (h : CycAt w a A c T k) (k' : Nat) (hk : k' < T.length) : CycAt (w.setCell ⟨a, 1, none⟩ (.int .i64 k')) a A c T k' :=
  ⟨by simpa using h.blk.set_ 1 (.int .i64 k'), h.rd.chg (X := [a]) ((Chg.refl _ _).setCell (by simp) _) (fun _ b o v e hm => h.apart b o v e (by simpa using hm)), hk, h.small, h.apart⟩

set_option maxHeartbeats 1000000 in
theorem cycNext {a c k : Nat} {A : Option Addr} {T : List (List UInt8)} (w : World) (h : CycAt w a A c T k) (k' : Nat) (hk : (k + 1) % T.length = k') (s : List UInt8) (hs : T[k]? = some s) :
    Calls Tryd.prog 20 #[.pointer (some ⟨a, 0, none⟩)] w fun e w' => e = .returned (.string ⟨s.toArray⟩) ∧ CycAt w' a A c T k' ∧ Chg [a] w w' := by
  have e0 : w.cell? ⟨a, 0, none⟩ = some (.slice A T.length c) := h.blk.cell 0
  have e1 : w.cell? ⟨a, 1, none⟩ = some (.int .i64 k) := h.blk.cell 1
  have f1 := h.blk.frozen 1
  have hlt := h.lt
  have hsm := h.small
  obtain ⟨b, o, rfl, hb, hc⟩ := h.rd.2 (by simp [strsV]; omega)
  have hcell : w.cell? ⟨b, o + k, none⟩ = some (.string ⟨s.toArray⟩) := hc k _ (by simp [strsV, hs, strV])
  have hkk : ((k : Int) + 1) % (T.length : Int) = k' := by rw [← hk]; simp
  have hk'lt : k' < T.length := by rw [← hk]; exact Nat.mod_lt _ (by omega)
  have HKK := Lib.hid hkk
  clear hk hkk hc hs
  go_enter Tryd.func20, Tryd.ntmps20
  go_wp2
  go_quiet (fail)
  go_wp2
  have h1 := h.keep (Ext.drawn w nq)
  have hc1 : Chg [a] w (w.drewN nq) := .of_ext (Ext.drawn _ _)
  generalize w.drewN nq = w1 at h1 hc1 ⊢
  have d0 : w1.cell? ⟨a, 0, none⟩ = some (.slice (some ⟨b, o, none⟩) T.length c) := h1.blk.cell 0
  have d1 : w1.cell? ⟨a, 1, none⟩ = some (.int .i64 k) := h1.blk.cell 1
  have g1 := h1.blk.frozen 1
  clear e0 e1 f1 hcell
  go_region
  go_wp2
  go_ret
  rw [HKK.out]
  exact ⟨rfl, (h1.set_ k' hk'lt).keep (Below.refl _ _).drew, (hc1.setCell (by simp) _).drew⟩

set_option maxHeartbeats 400000 in
theorem cycNewErr (E : Nat → Addr) (A : Option Addr) (n c : Nat) (w : World) (hE : Five w E) (h : n < 1 ∨ 8 < n) (hn : n ≤ 1000000) :
    Calls Tryd.prog 16 #[.slice A n c] w fun e w' => e = .returned (.tuple #[.pointer none, errV E 0]) ∧ Ext w w' := by
  have g0 := hE.cell (i := 0) (by decide) rfl
  have h' : n < 1 ∨ (¬ n < 1 ∧ 8 < n) := by omega
  clear h
  unfold errV at *
  rcases h' with h | ⟨h1, h⟩
  all_goals
    go_enter Tryd.func16, Tryd.ntmps16
    go_wp2
    go_quiet (fail)
    go_wp2
    go_ret2
    exact ⟨rfl, Ext.drawn _ _⟩

/-- A cycle that was made between two worlds. -/
def MadeCyc (w w' : World) (T : List (List UInt8)) (a : Nat) : Prop := ∃ A c, CycAt w' a A c T 0 ∧ w.heap.size ≤ a ∧ ∀ b o v, A = some ⟨b, o, v⟩ → w.heap.size ≤ b

theorem all_succ (T : List (List UInt8)) (k : Nat) (h : k < T.length) : (T.take (k + 1)).all rightB = ((T.take k).all rightB && rightB T[k]) := by
  rw [List.take_succ_eq_append_getElem h, List.all_append]; simp

set_option maxHeartbeats 1000000 in
set_option maxRecDepth 20000 in
theorem cycNew (E : Nat → Addr) (T : List (List UInt8)) (A : Option Addr) (c : Nat) (w : World) (hE : Five w E) (h1 : 1 ≤ T.length) (h8 : T.length ≤ 8) (hc : T.length ≤ c) (_hcm : c ≤ maxLen) (hr : Rd w 1 A T.length (strsV T)) (hs : ∀ t ∈ T, t.length ≤ 100000) (r : Bool) (hrb : T.all rightB = r) :
    Calls Tryd.prog 16 #[.slice A T.length c] w fun e w' => Ext w w' ∧ (if r then ∃ a, e = .returned (.tuple #[.pointer (some ⟨a, 0, none⟩), .nilIface]) ∧ MadeCyc w w' (T ++ T.drop (T.length - 1)) a else e = .returned (.tuple #[.pointer none, errV E 5])) := by
  obtain ⟨N, hN⟩ : ∃ N, T.length = N + 1 := ⟨T.length - 1, by omega⟩
  obtain ⟨b, o, rfl, hb, hcells⟩ := hr.2 (by simp [strsV]; omega)
  have hlast : Rd w 1 (some ⟨b, o + N, none⟩) 1 (strsV (T.drop N)) := by
    refine ⟨by simp [strsV]; omega, fun _ => ⟨b, o + N, rfl, hb, fun j u hu => ?_⟩⟩
    rw [show o + N + j = o + (N + j) by omega]
    exact hcells _ _ (by simpa [strsV] using hu)
  rw [show T.length - 1 = N by omega]
  have HL := Lib.hid hlast
  have HR := Lib.hid hrb
  have HS := Lib.hid hs
  have HRD := Lib.hid hr
  have HC := Lib.hid hcells
  have HN := Lib.hid hN
  have hcN : N + 1 ≤ c := by omega
  have hN8 : N ≤ 7 := by omega
  unfold maxLen at _hcm
  rw [hN]
  clear hlast hrb hs hr hcells hc h1 h8 hN
  go_enter Tryd.func16, Tryd.ntmps16
  go_wp2
  go_loopw [17] (fun i wr => ∃ k : Nat, k ≤ N + 1 ∧ i = .int .i64 k ∧ (T.take k).all rightB = true ∧ Ext w wr) (fun i _ => N + 1 - (intOf i).toNat)
  case atStart => exact ⟨0, Nat.zero_le _, rfl, by simp, Ext.refl _⟩
  case round =>
    obtain ⟨k, hk, rfl, hall, hbr⟩ := hrel
    have HALL := Lib.hid hall
    clear hall
    by_cases hlt : k < N + 1
    · have hkT : k < T.length := by rw [HN.out]; exact hlt
      obtain ⟨t, ht⟩ : ∃ t, T[k] = t := ⟨_, rfl⟩
      have hcell : wr.cell? ⟨b, o + k, none⟩ = some (.string ⟨t.toArray⟩) := (HRD.out.keep hbr).2 (by simp [strsV]; omega) |>.elim fun b' h => h.elim fun o' h => by
        obtain ⟨e, _, hc⟩ := h
        cases e
        exact hc k _ (by simp [strsV, hkT, strV, ht])
      have htl : t.length ≤ 100000 := HS.out t (ht ▸ List.getElem_mem hkT)
      have hsuc := all_succ T k hkT
      rw [HALL.out, ht, Bool.true_and] at hsuc
      obtain ⟨rb, hrbk⟩ : ∃ rb, rightB t = rb := ⟨_, rfl⟩
      rw [hrbk] at hsuc
      have HT := Lib.hid hrbk
      have HSU := Lib.hid hsuc
      clear hsuc hrbk ht
      cases rb
      · have hf : r = false := by
          rw [← HR.out, List.all_eq_false]
          have h2 := HSU.out
          rw [List.all_eq_false] at h2
          obtain ⟨x, hx, h3⟩ := h2
          exact ⟨x, List.mem_of_mem_take hx, h3⟩
        subst hf
        go_wp2_with (go_at_call 52; refine (ttRight t htl _).mono ?_; rw [HT.out]; rintro e w1 ⟨rfl, hb1⟩; have g5 := (hE.keep (hbr.trans hb1)).cell (i := 5) (by decide) rfl; unfold errV at g5)
        go_quiet (fail)
        go_wp2
        go_ret2
        exact ⟨(hbr.trans hb1).trans (Ext.drawn _ _), rfl⟩
      · go_wp2_with (go_at_call 52; refine (ttRight t htl _).mono ?_; rw [HT.out]; rintro e w1 ⟨rfl, hb1⟩)
        go_roundw
        case rel => exact ⟨k + 1, hlt, by go_num, HSU.out, hbr.trans hb1⟩
        case measure => simp [intOf]; omega
    · obtain rfl : k = N + 1 := by omega
      have ht : r = true := by
        have := HALL.out
        rw [List.take_of_length_le (by rw [HN.out]; exact Nat.le_refl _), HR.out] at this
        exact this
      subst ht
      have hNT := HN.out
      have HNT := Lib.hid hNT
      clear hNT
      go_wp2_with (go_at_call 54; refine (concatS T (T.drop N) (some ⟨b, o, none⟩) (some ⟨b, o + N, none⟩) (N + 1) c 1 (c - N) wr.heap.size 22 _ (by omega) (by omega) (Blk.newL wr _ _) (by have := HRD.out; rw [HN.out] at this; exact (this.keep hbr).keep (Ext.new1 _ _)) ((HL.out.keep hbr).keep (Ext.new1 _ _))).mono ?_; rintro e w1 ⟨v1, rfl, hown1, hb1⟩; obtain ⟨A3, c3, rfl, hc3, hm3, hrd3⟩ := own_rd hown1)
      go_ret2
      have hnl : (T ++ T.drop N).length = N + 1 + 1 := by simp [HN.out]
      have hblk : ∀ b o v, A3 = some ⟨b, o, v⟩ → wr.heap.size ≤ b ∧ b < w1.heap.size := by
        rintro b' o' v' rfl
        have := hown1.lt b' rfl
        simp at this
        omega
      have hbw : Ext w w1 := hbr.trans ((Ext.new1 _ _).trans hb1)
      have hwr := hbr.size
      have hsz := hbw.size
      refine ⟨hbw.alloc hsz _, w1.heap.size, rfl, A3, c3, ⟨?_, ?_, by omega, by omega, fun b o v e => by have := hblk b o v e; omega⟩, hsz, fun b o v e => by have := hblk b o v e; omega⟩
      · rw [hnl]; exact Blk.newL w1 _ [.slice A3 (N + 1 + 1) c3, .int .i64 0]
      · rw [hnl]; exact hrd3.keep (Ext.new1 _ _)

def vt100 : List UInt8 := [118, 116, 49, 48, 48]
def ansi : List UInt8 := [97, 110, 115, 105]

set_option maxHeartbeats 1000000 in
set_option maxRecDepth 20000 in
theorem alive13 (E : Nat → Addr) (w : World) (hE : Five w E) :
    Calls Tryd.prog 9 #[] w fun e w' => e = .returned (.bool true) ∧ Ext w w' := by
  go_enter Tryd.func9, Tryd.ntmps9
  go_wp2_with (first
    | (go_at_call 20; refine (cycNext _ hC3 1 rfl vt100 rfl).mono ?_; rintro e w5 ⟨rfl, hC4, hb5⟩)
    | (go_at_call 20; refine (cycNext _ hC2 0 rfl ansi rfl).mono ?_; rintro e w4 ⟨rfl, hC3, hb4⟩)
    | (go_at_call 20; refine (cycNext _ hC1 2 rfl ansi rfl).mono ?_; rintro e w3 ⟨rfl, hC2, hb3⟩)
    | (go_at_call 20; refine (cycNext _ hC0 1 rfl vt100 rfl).mono ?_; rintro e w2 ⟨rfl, hC1, hb2⟩)
    | (go_at_call 16; refine (cycNew E [vt100, ansi] (some ⟨w.heap.size, 0, none⟩) 2 _ (hE.keep (Ext.new1 _ _)) (by simp) (by simp) (by simp) (by unfold maxLen; omega) (rd_newS w 1 2 (strsV [vt100, ansi]) _ rfl) (by simp [vt100, ansi]) true rfl).mono ?_; rintro e w1 ⟨hb1, a, rfl, A3, c3, hC0, ha, hA⟩))
  go_ret
  have hsz := ((Ext.new1 w (.cells (strsV [vt100, ansi]).toArray 9)).trans hb1).size
  have h5 : Chg [a] w w5 := ((((Chg.of_ext ((Ext.new1 _ _).trans hb1)).trans hb2).trans hb3).trans hb4).trans hb5
  exact ⟨rfl, h5.ext (by simp at ha ⊢; omega)⟩
end Go.Proofs.YtnbdmlpnoiljdaaDoor
