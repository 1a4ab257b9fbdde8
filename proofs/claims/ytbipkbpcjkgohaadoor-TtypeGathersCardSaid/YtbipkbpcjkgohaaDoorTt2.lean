/- layer 13: bodies, and what they say. -/
import Derived.Test.YtbipkbpcjkgohaaDoorTt1
import Derived.Lib.AppendStr
import Derived.Handy
namespace Go.Proofs.YtbipkbpcjkgohaaDoor
open Go Go.RowKit

/-- What a body says. -/
def parseP : List UInt8 → List UInt8 × Bool × Nat
  | [] => ([], false, 3)
  | c :: r => if c.toNat = 1 then (if r.length = 0 then ([], true, 0) else ([], false, 4)) else if c.toNat = 0 then (if rightB r then (r, false, 0) else ([], false, 6)) else ([], false, 5)

/-- An error by its number. -/
def errN (E : Nat → Addr) (n : Nat) : Value := if n = 0 then .nilIface else errV E (n - 1)

/-- The five errors of this layer, in their variables. -/
structure Five (w : World) (E : Nat → Addr) : Prop where
  cell : ∀ {i g : Nat}, i ∈ [0, 2, 3, 4, 5] → errGs[i]? = some g → w.cell? ⟨g, 0, none⟩ = some (errV E i)
theorem Five.keep {w w' : World} {E : Nat → Addr} (h : Five w E) (hb : Ext w w') : Five w' E :=
  ⟨fun {i g} hi hg => by
    have hc := h.cell hi hg
    have hl : g < w.heap.size := by
      rcases Nat.lt_or_ge g w.heap.size with h' | h'
      · exact h'
      · simp [World.cell?, Array.getElem?_eq_none h'] at hc
    exact (hb.cell (p := ⟨g, 0, none⟩) hl).trans hc⟩
theorem Errs.five {w : World} {E : Nat → Addr} (h : Errs w E) : Five w E := ⟨fun _ hg => h.cell hg⟩

theorem strCells_bytes (l : List UInt8) : Lib.strCells ⟨l.toArray⟩ = bytesV l := by simp [Lib.strCells, bytesV, U8]

set_option maxHeartbeats 1000000 in
theorem refParse (l s : List UInt8) (a : Bool) (n : Nat) (hp : parseP l = (s, a, n)) (hl : l.length ≤ 100000) (w : World) :
    Calls Tryd.prog 42 #[.string ⟨l.toArray⟩] w fun e w' => e = .returned (.tuple #[.string ⟨s.toArray⟩, .bool a, .int .i64 n]) ∧ w = w' := by
  rcases l with _ | ⟨c, r⟩
  · simp [parseP] at hp
    obtain ⟨rfl, rfl, rfl⟩ := hp
    go_enter Tryd.func42, Tryd.ntmps42
    go_wp2
    go_ret3
    exact ⟨rfl, rfl⟩
  simp only [List.length_cons] at hl
  have hc256 := c.toNat_lt
  by_cases h1 : c.toNat = 1
  · by_cases hr0 : r.length = 0
    · simp [parseP, h1, hr0] at hp
      obtain ⟨rfl, rfl, rfl⟩ := hp
      go_enter Tryd.func42, Tryd.ntmps42
      go_wp2
      go_ret3
      exact ⟨rfl, rfl⟩
    · simp only [parseP, h1, hr0, if_true, if_false] at hp
      simp at hp
      obtain ⟨rfl, rfl, rfl⟩ := hp
      have hr1 : 0 < r.length := by omega
      clear hr0
      go_enter Tryd.func42, Tryd.ntmps42
      go_wp2
      go_ret3
      exact ⟨rfl, rfl⟩
  · by_cases h0 : c.toNat = 0
    · obtain ⟨rb, hrb⟩ : ∃ rb, rightB r = rb := ⟨_, rfl⟩
      have hd : List.drop 1 (c :: r) = r := rfl
      simp only [parseP, h0, hrb, if_true] at hp
      simp at hp
      have HR := Lib.hid hrb
      clear hrb
      cases rb
      all_goals
        simp at hp
        obtain ⟨rfl, rfl, rfl⟩ := hp
        go_enter Tryd.func42, Tryd.ntmps42
        go_wp2_with (go_at_call 40; refine (refRight r (by omega) _).mono ?_; rw [HR.out]; rintro e w1 ⟨rfl, rfl⟩)
        go_ret3
        exact ⟨rfl, rfl⟩
    · simp only [parseP, h0, h1, if_false] at hp
      simp at hp
      obtain ⟨rfl, rfl, rfl⟩ := hp
      have h2 : 1 < c.toNat := by omega
      clear h0 h1
      go_enter Tryd.func42, Tryd.ntmps42
      go_wp2
      go_ret3
      exact ⟨rfl, rfl⟩

set_option maxHeartbeats 400000 in
theorem ttAsk (w : World) : Calls Tryd.prog 43 #[] w fun e w' => e = .returned (.slice (some ⟨w.heap.size, 0, none⟩) 1 1) ∧ Rd w' 1 (some ⟨w.heap.size, 0, none⟩) 1 (bytesV [1]) ∧ Ext w w' := by
  go_enter Tryd.func43, Tryd.ntmps43
  go_wp2
  go_ret
  exact ⟨rfl, rd_one _ _ _, Ext.new1 _ _⟩

set_option maxHeartbeats 1000000 in
set_option maxRecDepth 20000 in
theorem ttBody (E : Nat → Addr) (l : List UInt8) (hl : l.length ≤ 100000) (w : World) (hE : Five w E) :
    Calls Tryd.prog 33 #[.string ⟨l.toArray⟩] w fun e w' => ∃ v, e = .returned (.tuple #[v, if rightB l then .nilIface else errV E 5]) ∧ IsBytes w' v (if rightB l then 0 :: l else []) ∧ Ext w w' := by
  obtain ⟨rb, hrb⟩ : ∃ rb, rightB l = rb := ⟨_, rfl⟩
  rw [hrb]
  have HR := Lib.hid hrb
  clear hrb
  obtain ⟨ib, hib, hzb, hszb, hbyb⟩ := info_parts (Tryd.elemB).info
  have HIB := Lib.hid hib
  have HZB := Lib.hid hzb
  have HSB := Lib.hid hszb
  have HYB := Lib.hid hbyb
  clear hib hzb hszb hbyb
  cases rb
  · go_enter Tryd.func33, Tryd.ntmps33
    go_wp2_with (go_at_call 41; refine (ttRight l (by omega) _).mono ?_; rw [HR.out]; rintro e w1 ⟨rfl, hb1⟩; have g5 := (hE.keep hb1).cell (i := 5) (by decide) rfl; unfold errV at g5)
    go_quiet (fail)
    go_wp2
    go_ret2
    exact ⟨_, rfl, ⟨none, 0, 0, rfl, Nat.le_refl _, by unfold maxLen; omega, Rd.nil⟩, hb1.trans (Ext.drawn _ _)⟩
  · go_enter Tryd.func33, Tryd.ntmps33
    go_wp2_with (first
      | (at_builtin; go_loud (refine Lib.wpList_append_own_string _ rfl (.tmp 8) (.tmp 9) _ _ rfl w.heap.size 5 ib Tryd.underlying31 Tryd.underlying9 HIB.out HZB.out HSB.out HYB.out _ 1 [U8 0] rfl hown1 ⟨l.toArray⟩ rfl (by show 1 + l.length ≤ _; unfold maxLen; omega) (by show 1 + l.length ≤ _; omega) (by simp; omega) ?_); intro v2 w2 hown2 hg2 hn2)
      | (go_at_call 41; refine (ttRight l (by omega) _).mono ?_; rw [HR.out]; rintro e w1 ⟨rfl, hb1⟩; have hsz := hb1.size; have hown1 : (w1.alloc (.cells #[.int .u8 0] 5)).ownsRow w.heap.size 5 1 (.slice (some ⟨w1.heap.size, 0, none⟩) 1 1) 1 [U8 0] := own_new (cap := 1) (n := 1) (size := 1) (heap_alloc_new w1 _) hsz (Nat.le_refl _) (by unfold maxLen; omega) (by simp)))
    go_ret2
    have hg : Grew w.heap.size _ w2 _ := ⟨hg2, fun k hk => (hown1.lt k hk).1⟩
    obtain ⟨A, c, rfl, h1, h2, hrd⟩ := own_rd hown2
    refine ⟨_, rfl, ⟨A, _, c, rfl, h1, h2, ?_⟩, hg.below (hb1.alloc hsz _) (Nat.le_refl _) (by simp; omega)⟩
    rw [strCells_bytes] at hrd
    exact hrd

set_option maxHeartbeats 1000000 in
set_option maxRecDepth 20000 in
theorem ttParse (E : Nat → Addr) (l s : List UInt8) (a : Bool) (n : Nat) (hp : parseP l = (s, a, n)) (hl : l.length ≤ 100000) (A : Option Addr) (m c : Nat) (w : World) (hE : Five w E) (hmc : m ≤ c) (hr : Rd w 1 A m (bytesV l)) :
    Calls Tryd.prog 35 #[.slice A m c] w fun e w' => e = .returned (.tuple #[.string ⟨s.toArray⟩, .bool a, errN E n]) ∧ Ext w w' := by
  have g2 := hE.cell (i := 2) (by decide) rfl
  have g3 := hE.cell (i := 3) (by decide) rfl
  have g4 := hE.cell (i := 4) (by decide) rfl
  unfold errV at g2 g3 g4
  have hm : l.length = m := hr.len_bytes
  subst hm
  rcases l with _ | ⟨x, r⟩
  · simp [parseP] at hp
    obtain ⟨rfl, rfl, rfl⟩ := hp
    go_enter Tryd.func35, Tryd.ntmps35
    go_wp2
    go_quiet (fail)
    go_wp2
    go_ret3
    exact ⟨rfl, Ext.drawn _ _⟩
  simp only [List.length_cons] at hl hmc hr ⊢
  obtain ⟨b, o, rfl, hlt, hc⟩ := hr.2 (by simp [bytesV])
  have hc0 : w.cell? ⟨b, o, none⟩ = some (.int .u8 x.toNat) := by
    have := hc 0 (U8 x) (by simp [bytesV])
    simpa [U8] using this
  have hr1 : Rd w 1 (some ⟨b, o + 1, none⟩) r.length (bytesV r) := ⟨by simp [bytesV], fun _ => ⟨b, o + 1, rfl, hlt, fun j u hu => by
    have := hc (j + 1) u (by simpa [bytesV] using hu)
    rw [show o + 1 + j = o + (j + 1) by omega]; exact this⟩⟩
  have hcv := fun cc => conv_all (P := Tryd.prog) (src := 31) (dst := 9) (c := cc) Tryd.underlying31 Tryd.underlying5 Tryd.underlying9 hr1
  have HCV := Lib.hid hcv
  clear hcv hr1 hc hr
  have hc256 := x.toNat_lt
  by_cases h1 : x.toNat = 1
  · have h1' : (x.toNat : Int) = 1 := by omega
    by_cases hr0 : r.length = 0
    · simp [parseP, h1, hr0] at hp
      obtain ⟨rfl, rfl, rfl⟩ := hp
      rw [h1'] at hc0
      clear h1 h1'
      go_enter Tryd.func35, Tryd.ntmps35
      go_wp2
      go_ret3
      exact ⟨rfl, Ext.refl _⟩
    · simp only [parseP, h1, hr0, if_true, if_false] at hp
      simp at hp
      obtain ⟨rfl, rfl, rfl⟩ := hp
      have hr1 : 0 < r.length := by omega
      rw [h1'] at hc0
      clear hr0 h1 h1'
      go_enter Tryd.func35, Tryd.ntmps35
      go_wp2
      go_quiet (fail)
      go_wp2
      go_ret3
      exact ⟨rfl, Ext.drawn _ _⟩
  · by_cases h0 : x.toNat = 0
    · obtain ⟨rb, hrb⟩ : ∃ rb, rightB r = rb := ⟨_, rfl⟩
      simp only [parseP, h0, hrb, if_true] at hp
      simp at hp
      have h0' : (x.toNat : Int) = 0 := by omega
      have HR := Lib.hid hrb
      rw [h0'] at hc0
      clear hrb h0 h1 h0'
      by_cases hc1 : c = 1
      · subst hc1
        obtain rfl : r = [] := List.eq_nil_of_length_eq_zero (by omega)
        have hrb := HR.out
        rw [show rightB [] = false from rfl] at hrb
        subst hrb
        simp at hp
        obtain ⟨rfl, rfl, rfl⟩ := hp
        have hcv := conv_str (P := Tryd.prog) (w := w) (src := 31) (dst := 9) (c := 0) Tryd.underlying31 Tryd.underlying5 Tryd.underlying9 (l := []) (show Rd w 1 (some ⟨b, o, none⟩) 0 (bytesV []) from Rd.nil)
        go_enter Tryd.func35, Tryd.ntmps35
        go_wp2_with (go_at_call 41; refine (ttRight [] (by simp) _).mono ?_; rw [HR.out]; rintro e w1 ⟨rfl, hb1⟩; have g5 := (hE.keep hb1).cell (i := 5) (by decide) rfl; unfold errV at g5)
        go_quiet (fail)
        go_wp2
        go_ret3
        exact ⟨rfl, hb1.trans (Ext.drawn _ _)⟩
      have hc2 : 1 < c := by omega
      clear hc1
      have hcv := HCV.out (c - 1) w (Below.refl _ _)
      cases rb
      · simp at hp
        obtain ⟨rfl, rfl, rfl⟩ := hp
        go_enter Tryd.func35, Tryd.ntmps35
        go_wp2_with (go_at_call 41; refine (ttRight r (by omega) _).mono ?_; rw [HR.out]; rintro e w1 ⟨rfl, hb1⟩; have g5 := (hE.keep hb1).cell (i := 5) (by decide) rfl; unfold errV at g5)
        go_quiet (fail)
        go_wp2
        go_ret3
        exact ⟨rfl, hb1.trans (Ext.drawn _ _)⟩
      · simp at hp
        obtain ⟨rfl, rfl, rfl⟩ := hp
        go_enter Tryd.func35, Tryd.ntmps35
        go_wp2_with (go_at_call 41; refine (ttRight r (by omega) _).mono ?_; rw [HR.out]; rintro e w1 ⟨rfl, hb1⟩; have hcv1 := HCV.out (c - 1) w1 hb1)
        go_ret3
        exact ⟨rfl, hb1⟩
    · simp only [parseP, h0, h1, if_false] at hp
      simp at hp
      obtain ⟨rfl, rfl, rfl⟩ := hp
      have h2 : 1 < (x.toNat : Int) := by omega
      clear h0 h1
      go_enter Tryd.func35, Tryd.ntmps35
      go_wp2
      go_quiet (fail)
      go_wp2
      go_ret3
      exact ⟨rfl, Ext.drawn _ _⟩
end Go.Proofs.YtbipkbpcjkgohaaDoor
