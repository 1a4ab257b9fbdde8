/- layer 13: lists that are gathered. -/
import Derived.Test.YtnbdmlpnoiljdaaDoorTt5
namespace Go.Proofs.YtnbdmlpnoiljdaaDoor
open Go Go.RowKit

/-- A list takes a type. -/
def takeP (N : List (List UInt8)) (wh : Bool) (s : List UInt8) : List (List UInt8) × Bool :=
  if wh then (N, true) else if rightB s then (if N.getLast? = some s then (N, true) else (N ++ [s], decide (N.length + 1 = 8))) else (N, false)

/-- At a there is a list with the names N; its own row lies from B on. -/
structure LstAt (w : World) (B a : Nat) (A : Option Addr) (c : Nat) (N : List (List UInt8)) (wh : Bool) : Prop where
  blk : Blk w a 27 [.slice A N.length c, .bool wh]
  own : w.ownsRow B 9 1 (.slice A N.length c) N.length (strsV N)
  apart : (Value.slice A N.length c).ownBlock ≠ some a
  from_ : B ≤ a
  small : N.length ≤ 1000
theorem LstAt.keep {w w' : World} {B a c : Nat} {A : Option Addr} {N : List (List UInt8)} {wh : Bool} (h : LstAt w B a A c N wh) (hb : Ext w w') : LstAt w' B a A c N wh := ⟨h.blk.keep hb, own_ext h.own hb, h.apart, h.from_, h.small⟩
theorem LstAt.chg {w w' : World} {B a c : Nat} {A : Option Addr} {N : List (List UInt8)} {wh : Bool} {X : List Nat} (h : LstAt w B a A c N wh) (hc : Chg X w w') (hx : ∀ x ∈ X, x < B) : LstAt w' B a A c N wh :=
  ⟨h.blk.chg hc (fun hm => by have := hx _ hm; have := h.from_; omega), own_chg h.own hc (fun k hk hm => by have := hx _ hm; have := (h.own.lt k hk).1; omega), h.apart, h.from_, h.small⟩

theorem lstNil {w : World} : LstAt (w.alloc (.cells #[.slice none 0 0, .bool false] 27)) w.heap.size w.heap.size none 0 [] false :=
  ⟨Blk.new w _ _, World.ownsRow_nil _ _ _ _, by simp [Value.ownBlock], Nat.le_refl _, by simp⟩

theorem lstWhole {w : World} {B a c : Nat} {A : Option Addr} {N : List (List UInt8)} {wh : Bool} (h : LstAt w B a A c N wh) :
    Calls Tryd.prog 13 #[.pointer (some ⟨a, 0, none⟩)] w fun e w' => e = .returned (.bool wh) ∧ w = w' := by
  have e1 : w.cell? ⟨a, 1, none⟩ = some (.bool wh) := h.blk.cell 1
  go_enter Tryd.func13, Tryd.ntmps13
  go_wp2
  go_ret
  exact ⟨rfl, rfl⟩

theorem lstNames {w : World} {B a c : Nat} {A : Option Addr} {N : List (List UInt8)} {wh : Bool} (h : LstAt w B a A c N wh) :
    Calls Tryd.prog 15 #[.pointer (some ⟨a, 0, none⟩)] w fun e w' => ∃ v, e = .returned v ∧ w'.ownsRow w.heap.size 9 1 v N.length (strsV N) ∧ Ext w w' := by
  have e0 : w.cell? ⟨a, 0, none⟩ = some (.slice A N.length c) := h.blk.cell 0
  have hs := h.small
  go_enter Tryd.func15, Tryd.ntmps15
  go_wp2_with (go_at_call 53; refine (strsClone N A N.length c _ (by obtain ⟨A', c', e, _, _, hr⟩ := own_rd h.own; cases e; exact hr) (by omega)).mono ?_; rintro e w1 ⟨v1, rfl, hown1, hb1⟩)
  go_ret
  exact ⟨_, rfl, hown1, hb1⟩

theorem LstAt.push {w : World} {B a n c2 : Nat} {A2 : Option Addr} {N : List (List UInt8)} {s : List UInt8} {wh' : Bool} {x y : Value} (hB : Blk w a 27 [x, y]) (hn : N.length = n) (hs : n ≤ 100) (hBa : B ≤ a)
    (ho : w.ownsRow B 9 1 (.slice A2 (n + 1) c2) (n + 1) (strsV N ++ [.string ⟨s.toArray⟩])) (hne : (Value.slice A2 (n + 1) c2).ownBlock ≠ some a) :
    LstAt ((w.setCell ⟨a, 0, none⟩ (.slice A2 (n + 1) c2)).setCell ⟨a, 1, none⟩ (.bool wh')) B a A2 c2 (N ++ [s]) wh' := by
  have hl : (N ++ [s]).length = n + 1 := by simp [hn]
  have hc : Chg [a] w ((w.setCell ⟨a, 0, none⟩ (.slice A2 (n + 1) c2)).setCell ⟨a, 1, none⟩ (.bool wh')) := ((Chg.refl _ _).setCell (by simp) _).setCell (by simp) _
  refine ⟨?_, ?_, by rw [hl]; exact hne, hBa, by omega⟩
  · rw [hl]
    simpa using (hB.set_ 0 (.slice A2 (n + 1) c2)).set_ 1 (.bool wh')
  · rw [hl]
    have := own_chg ho hc (fun k hk hm => by simp at hm; subst hm; exact hne hk)
    simpa [strsV, strV] using this

set_option maxHeartbeats 2000000 in
set_option maxRecDepth 20000 in
theorem lstTake {w : World} {B a c : Nat} {A : Option Addr} {N N' : List (List UInt8)} {wh wh' : Bool} (h : LstAt w B a A c N wh) (s : List UInt8) (hs : s.length ≤ 100000) (hN : N.length ≤ 100) (ht : takeP N wh s = (N', wh')) :
    Calls Tryd.prog 11 #[.pointer (some ⟨a, 0, none⟩), .string ⟨s.toArray⟩] w fun e w' => e = .returned (.bool wh') ∧ (∃ A' c', LstAt w' B a A' c' N' wh') ∧ Below B w w' := by
  have hBa := h.from_
  have halt := h.blk.lt
  have e0 : w.cell? ⟨a, 0, none⟩ = some (.slice A N.length c) := h.blk.cell 0
  have e1 : w.cell? ⟨a, 1, none⟩ = some (.bool wh) := h.blk.cell 1
  obtain ⟨rb, hrb⟩ : ∃ rb, rightB s = rb := ⟨_, rfl⟩
  have HRB := Lib.hid hrb
  cases wh
  case true =>
    simp [takeP] at ht
    obtain ⟨rfl, rfl⟩ := ht
    clear hrb
    go_enter Tryd.func11, Tryd.ntmps11
    go_wp2
    go_ret
    exact ⟨rfl, ⟨A, c, h⟩, Below.refl _ _⟩
  cases rb
  · simp [takeP, hrb] at ht
    obtain ⟨rfl, rfl⟩ := ht
    clear hrb
    go_enter Tryd.func11, Tryd.ntmps11
    go_wp2_with (go_at_call 52; refine (ttRight s hs _).mono ?_; rw [HRB.out]; rintro e w1 ⟨rfl, hb1⟩; have d1 : w1.cell? ⟨a, 1, none⟩ = some (.bool false) := (h.blk.keep hb1).cell 1)
    go_ret
    exact ⟨rfl, ⟨A, c, h.keep hb1⟩, hb1.mono (by omega)⟩
  by_cases hlast : N.getLast? = some s
  · simp [takeP, hrb, hlast] at ht
    obtain ⟨rfl, rfl⟩ := ht
    obtain ⟨k, hk⟩ : ∃ k, N.length = k + 1 := by
      cases N with
      | nil => simp at hlast
      | cons x xs => exact ⟨xs.length, rfl⟩
    have hNk : N[k]? = some s := by rw [List.getLast?_eq_getElem?, hk] at hlast; simpa using hlast
    rw [hk] at e0
    obtain ⟨A1, c1, e, _, _, hrd⟩ := own_rd h.own
    cases e
    obtain ⟨b, o, rfl, _, _⟩ := hrd.2 (by simp [strsV]; omega)
    have HRD := Lib.hid hrd
    have HNK := Lib.hid hNk
    have HK := Lib.hid hk
    have f1 := h.blk.frozen 1
    have hk8 : k ≤ 100 := by omega
    clear hrb hlast hrd hNk hk
    go_enter Tryd.func11, Tryd.ntmps11
    go_wp2_with (go_at_call 52; refine (ttRight s hs _).mono ?_; rw [HRB.out]; rintro e w1 ⟨rfl, hb1⟩; have h1 := h.keep hb1; have d0 : w1.cell? ⟨a, 0, none⟩ = some (.slice (some ⟨b, o, none⟩) (k + 1) c) := (by have := h1.blk.cell 0; rw [HK.out] at this; exact this); have d1 : w1.cell? ⟨a, 1, none⟩ = some (.bool false) := h1.blk.cell 1; have d2 := rd_at_strs (HRD.out.keep hb1) HNK.out; have f1 := h1.blk.frozen 1)
    go_ret
    exact ⟨rfl, ⟨_, c, by simpa using h1.blk.set_ 1 (.bool true), own_chg h1.own ((Chg.refl [a] _).setCell (by simp) _) (fun k hk hm => by simp at hm; subst hm; exact h1.apart hk), h1.apart, hBa, h1.small⟩, (hb1.mono (by omega)).setCell (by omega) _⟩
  · simp only [takeP, hrb, if_true, Bool.false_eq_true, if_false, hlast] at ht
    simp at ht
    obtain ⟨rfl, hw8⟩ := ht
    obtain ⟨A1, c1, e, _, _, hrd⟩ := own_rd h.own
    cases e
    have HRD := Lib.hid hrd
    have HW := Lib.hid hw8
    have HLS := Lib.hid hlast
    obtain ⟨n, hn⟩ : ∃ n, N.length = n := ⟨_, rfl⟩
    have HN := Lib.hid hn
    rw [hn] at e0
    have hap := h.apart
    rw [hn] at hap
    have hn8 : n ≤ 100 := by omega
    have hlastcell : n = 0 ∨ ∃ k t b o, n = k + 1 ∧ A = some ⟨b, o, none⟩ ∧ N[k]? = some t ∧ (t == s) = false := by
      cases n with
      | zero => exact .inl rfl
      | succ k =>
        refine .inr ?_
        obtain ⟨t, ht⟩ : ∃ t, N[k]? = some t := ⟨_, List.getElem?_eq_getElem (by omega)⟩
        obtain ⟨b, o, e, _, _⟩ := hrd.2 (by simp [strsV]; omega)
        refine ⟨k, t, b, o, rfl, e, ht, beq_eq_false_iff_ne.2 fun hts => hlast ?_⟩
        rw [List.getLast?_eq_getElem?, hn]
        simpa [hts] using ht
    clear hrb hlast hrd hn hw8
    rcases hlastcell with rfl | ⟨k, t, b, o, rfl, rfl, htk, hne⟩
    all_goals have HAP := Lib.hid hap
    all_goals clear hap
    case inl =>
      go_enter Tryd.func11, Tryd.ntmps11
      go_wp2_with (first
        | (at_builtin; go_loud ((refine wpList_app2 Tryd.elemS rfl (.tmp 45) (.tmp 47) rfl (v := .slice A 0 c) rfl (by have := own_alloc h1.own (.cells #[.string ⟨s.toArray⟩] 9); rw [HN.out] at this; exact this) (by simp; omega) rfl (rd_one w1 (.string ⟨s.toArray⟩) 9) (one_one rfl) (by omega) (by unfold maxLen; omega) ?_); intro v2 w2 hown2 hg2 _ hat2; obtain ⟨A2, c2, rfl, _, _, _⟩ := own_rd hown2; have hne2 : (Value.slice A2 (0 + 1) c2).ownBlock ≠ some a := (by rcases hat2 with e | e <;> rw [e]; exact HAP.out; simp; omega); have hblk2 := (h1.blk.alloc (.cells #[.string ⟨s.toArray⟩] 9)).grew hg2 (Ne.symm HAP.out); have hbw2 : Below B w w2 := hg2.below ((hb1.mono (by omega)).alloc (by omega) _) (Nat.le_refl _) (by simp; omega); have HB2 := Lib.hid hblk2; have HO2 := Lib.hid hown2; have p0 := hblk2.cell 0; have p1 := hblk2.cell 1; have q0 := hblk2.frozen 0; have q1 := hblk2.frozen 1; clear hblk2 hown2 hat2 hg2))
        | (go_at_call 52; refine (ttRight s hs _).mono ?_; rw [HRB.out]; rintro e w1 ⟨rfl, hb1⟩; have h1 := h.keep hb1; have hsz1 := hb1.size; have halt1 := h1.blk.lt; have d0 : w1.cell? ⟨a, 0, none⟩ = some (.slice A (0) c) := (by have := h1.blk.cell 0; rw [HN.out] at this; exact this); have d1 : w1.cell? ⟨a, 1, none⟩ = some (.bool false) := h1.blk.cell 1))
      go_ret
      obtain rfl : wh' = false := by rw [← HW.out, HN.out]; rfl
      exact ⟨rfl, ⟨A2, c2, LstAt.push HB2.out HN.out (by omega) hBa HO2.out hne2⟩, (hbw2.setCell (by omega) _).setCell (by omega) _⟩
    case inr =>
      have HTK := Lib.hid htk
      clear htk
      go_enter Tryd.func11, Tryd.ntmps11
      go_wp2_with (first
        | (at_builtin; go_loud ((refine wpList_app2 Tryd.elemS rfl (.tmp 45) (.tmp 47) rfl (v := .slice (some ⟨b, o, none⟩) (k + 1) c) rfl (by have := own_alloc h1.own (.cells #[.string ⟨s.toArray⟩] 9); rw [HN.out] at this; exact this) (by simp; omega) rfl (rd_one w1 (.string ⟨s.toArray⟩) 9) (one_one rfl) (by omega) (by unfold maxLen; omega) ?_); intro v2 w2 hown2 hg2 _ hat2; obtain ⟨A2, c2, rfl, _, _, _⟩ := own_rd hown2; have hne2 : (Value.slice A2 ((k + 1) + 1) c2).ownBlock ≠ some a := (by rcases hat2 with e | e <;> rw [e]; exact HAP.out; simp; omega); have hblk2 := (h1.blk.alloc (.cells #[.string ⟨s.toArray⟩] 9)).grew hg2 (Ne.symm HAP.out); have hbw2 : Below B w w2 := hg2.below ((hb1.mono (by omega)).alloc (by omega) _) (Nat.le_refl _) (by simp; omega); have HB2 := Lib.hid hblk2; have HO2 := Lib.hid hown2; have p0 := hblk2.cell 0; have p1 := hblk2.cell 1; have q0 := hblk2.frozen 0; have q1 := hblk2.frozen 1; clear hblk2 hown2 hat2 hg2))
        | (go_at_call 52; refine (ttRight s hs _).mono ?_; rw [HRB.out]; rintro e w1 ⟨rfl, hb1⟩; have h1 := h.keep hb1; have hsz1 := hb1.size; have halt1 := h1.blk.lt; have d0 : w1.cell? ⟨a, 0, none⟩ = some (.slice (some ⟨b, o, none⟩) ((k + 1)) c) := (by have := h1.blk.cell 0; rw [HN.out] at this; exact this); have d1 : w1.cell? ⟨a, 1, none⟩ = some (.bool false) := h1.blk.cell 1; have d2 := rd_at_strs ((by obtain ⟨A', c', e, _, _, hr⟩ := own_rd h1.own; cases e; exact hr : Rd w1 1 (some ⟨b, o, none⟩) N.length (strsV N))) HTK.out))
      go_ret
      obtain rfl : wh' = ((k : Int) + 1 + 1 == 8) := by rw [← HW.out, HN.out]; by_cases h6 : k = 6 <;> simp [h6] <;> omega
      exact ⟨rfl, ⟨A2, c2, LstAt.push HB2.out HN.out (by omega) hBa HO2.out hne2⟩, (hbw2.setCell (by omega) _).setCell (by omega) _⟩
end Go.Proofs.YtnbdmlpnoiljdaaDoor
