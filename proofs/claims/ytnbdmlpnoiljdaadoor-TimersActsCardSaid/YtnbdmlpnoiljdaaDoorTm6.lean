/- Timers: At, Next, Clear. -/
import Derived.Test.YtnbdmlpnoiljdaaDoorTm5
namespace Go.Proofs.YtnbdmlpnoiljdaaDoor
open Go Go.RowKit

theorem key_fix {L : List (Int × Int)} (hd : (L.map (·.2)).Nodup) {i j : Nat} {x y : Int × Int} (hi : L[i]? = some x) (hj : L[j]? = some y) (h : x.2 = y.2) : i = j := by
  have hp := List.pairwise_iff_getElem.1 hd
  obtain ⟨hi1, hi2⟩ := List.getElem?_eq_some_iff.1 hi
  obtain ⟨hj1, hj2⟩ := List.getElem?_eq_some_iff.1 hj
  rcases Nat.lt_trichotomy i j with h1 | h1 | h1
  · exact absurd (by rw [List.getElem_map, List.getElem_map, hi2, hj2]; exact h) (hp i j (by simpa using hi1) (by simpa using hj1) h1)
  · exact h1
  · exact absurd (by rw [List.getElem_map, List.getElem_map, hi2, hj2]; exact h.symm) (hp j i (by simpa using hj1) (by simpa using hi1) h1)
theorem tmFindYes {w : World} {B tb : Nat} {v : Value} {now : Int} {L : List (Int × Int)} (h : TmAt w B tb v now L) {key : Int} {k : Nat} {x : Int × Int} (hk : L[k]? = some x) (hx : x.2 = key) : Calls Tryd.prog 71 #[.pointer (some ⟨tb, 0, none⟩), .int .i64 key] w fun e w' => e = .returned (.int .i64 k) ∧ Ext w w' := by
  refine (tmFind h key).mono ?_
  rintro e w' ⟨r, rfl, ⟨k', x', rfl, hk', hx'⟩ | ⟨_, hno⟩, hx9⟩
  · rw [key_fix h.keys hk hk' (by rw [hx, hx'])]
    exact ⟨rfl, hx9⟩
  · exact absurd hx (hno x (List.mem_of_getElem? hk))
theorem tmFindNo {w : World} {B tb : Nat} {v : Value} {now : Int} {L : List (Int × Int)} (h : TmAt w B tb v now L) {key : Int} (hno : ∀ y ∈ L, y.2 ≠ key) : Calls Tryd.prog 71 #[.pointer (some ⟨tb, 0, none⟩), .int .i64 key] w fun e w' => e = .returned (.int .i64 (-1)) ∧ Ext w w' := by
  refine (tmFind h key).mono ?_
  rintro e w' ⟨r, rfl, ⟨k', x', rfl, hk', hx'⟩ | ⟨rfl, _⟩, hx9⟩
  · exact absurd hx' (hno x' (List.mem_of_getElem? hk'))
  · exact ⟨rfl, hx9⟩
theorem key_or (L : List (Int × Int)) (key : Int) : (∃ (k : Nat) (x : Int × Int), L[k]? = some x ∧ x.2 = key) ∨ ∀ y ∈ L, y.2 ≠ key := by
  by_cases h : ∃ (k : Nat) (x : Int × Int), L[k]? = some x ∧ x.2 = key
  · exact .inl h
  · refine .inr fun y hy e => h ?_
    obtain ⟨k, hk, rfl⟩ := List.getElem_of_mem hy
    exact ⟨k, _, List.getElem?_eq_getElem hk, e⟩

theorem TlAt.sh {w : World} {B : Nat} {v : Value} {L : List (Int × Int)} (h : TlAt w B v L) : ∃ A n c, v = .slice A n c := by
  obtain ⟨A, c, h1, _⟩ := h.rd
  exact ⟨A, _, c, h1⟩

/-- Its cells. -/
theorem TmAt.cells {w : World} {B tb : Nat} {v : Value} {now : Int} {L : List (Int × Int)} (h : TmAt w B tb v now L) {k : Nat} {x : Int × Int} (hk : L[k]? = some x) :
    ∃ g cap, v = .slice (some ⟨g, 0, none⟩) L.length cap ∧ L.length ≤ cap ∧ cap ≤ maxLen ∧ w.cell? ⟨g, k * 2, none⟩ = some (.int .i64 x.1) ∧ w.cell? ⟨g, k * 2 + 1, none⟩ = some (.int .i64 x.2) := by
  have hkl := (List.getElem?_eq_some_iff.1 hk).1
  obtain ⟨g, cap, cur, rfl, _, hB, h1, h2, hcl, hct⟩ := h.own.form (by omega)
  obtain ⟨g0, g1⟩ := tmC_get hk
  have hg : ∀ j u, (tmC L)[j]? = some u → w.cell? ⟨g, j, none⟩ = some u := fun j u hu => by
    rw [hB.cell]
    rw [← hct, List.getElem?_take] at hu
    split at hu
    · exact hu
    · cases hu
  exact ⟨g, cap, rfl, h1, h2, hg _ _ g0, hg _ _ g1⟩

/-- What At answers. -/
def AtAns (L : List (Int × Int)) (key a : Int) (b : Bool) : Prop := (∃ x ∈ L, x.2 = key ∧ a = x.1 ∧ b = true) ∨ ((∀ y ∈ L, y.2 ≠ key) ∧ a = 0 ∧ b = false)

set_option maxHeartbeats 1000000 in
theorem tmAt {w : World} {B tb : Nat} {v : Value} {now : Int} {L : List (Int × Int)} (h : TmAt w B tb v now L) (key : Int) : Calls Tryd.prog 50 #[.pointer (some ⟨tb, 0, none⟩), .int .i64 key] w fun e w' => ∃ a b, e = .returned (.tuple #[.int .i64 a, .bool b]) ∧ AtAns L key a b ∧ Ext w w' := by
  rcases key_or L key with ⟨k, x, hk, hx⟩ | hno
  · have hlen := h.len
    have hkl := (List.getElem?_eq_some_iff.1 hk).1
    obtain ⟨g, cap, rfl, hnc, hcm, z0, _⟩ := h.cells hk
    have HH := Lib.hid h
    have HK := Lib.hid hk
    have htl := h.blk.lt
    have hgl := (h.own.lt (k := g) rfl).2
    have e1 : w.cell? ⟨tb, 1, none⟩ = some (.slice (some ⟨g, 0, none⟩) L.length cap) := h.blk.cell 1
    obtain ⟨n, hn⟩ : ∃ n, L.length = n := ⟨_, rfl⟩
    rw [hn] at hkl hnc e1 hlen
    clear h hn hk
    go_enter Tryd.func50, Tryd.ntmps50
    go_wp2_with (go_at_call 71; go_loud (refine (tmFindYes HH.out HK.out hx).mono ?_); rintro e w9 ⟨rfl, hx9⟩; have y1 := (hx9.cell (p := ⟨tb, 1, none⟩) htl).trans e1; have y2 := (hx9.cell (p := ⟨g, k * 2, none⟩) hgl).trans z0)
    go_ret2
    exact ⟨_, _, rfl, .inl ⟨x, List.mem_of_getElem? HK.out, hx, rfl, rfl⟩, hx9⟩
  · have HH := Lib.hid h
    have HNO := Lib.hid hno
    clear h hno
    go_enter Tryd.func50, Tryd.ntmps50
    go_wp2_with (go_at_call 71; go_loud (refine (tmFindNo HH.out HNO.out).mono ?_); rintro e w9 ⟨rfl, hx9⟩)
    go_ret2
    exact ⟨_, _, rfl, .inr ⟨HNO.out, rfl, rfl⟩, hx9⟩

set_option maxHeartbeats 2000000 in
set_option maxRecDepth 20000 in
theorem tmClear {w : World} {B tb : Nat} {v : Value} {now : Int} {L : List (Int × Int)} (h : TmAt w B tb v now L) (key : Int) : Calls Tryd.prog 45 #[.pointer (some ⟨tb, 0, none⟩), .int .i64 key] w fun e w' => ∃ b, e = .returned (.bool b) ∧ ((b = true ∧ ∃ x ∈ L, x.2 = key) ∨ (b = false ∧ ∀ y ∈ L, y.2 ≠ key)) ∧ TmTurned w w' B tb v now (dropK key L) := by
  rcases key_or L key with ⟨k, x, hk, hx⟩ | hno
  · have hlen := h.len
    have hkl := (List.getElem?_eq_some_iff.1 hk).1
    have htl := h.blk.lt
    have e1 : w.cell? ⟨tb, 1, none⟩ = some v := h.blk.cell 1
    have HH := Lib.hid h
    have HK := Lib.hid hk
    have HLE := Lib.hid hlen
    have HKL := Lib.hid hkl
    clear h hk hlen hkl
    have hk0 : (0 : Int) ≤ (k : Int) := by omega
    have hk16 : k < 16 := by have := HLE.out; have := HKL.out; omega
    have hap : tb ∉ v.ownBlock.toList := fun hm => HH.out.own.apart HH.out.blk (by decide +kernel) (by simpa using hm)
    go_enter Tryd.func45, Tryd.ntmps45
    go_wp2_with (first
      | (go_at_call 75; go_loud (refine (tmDelete (HH.out.own.keep hx9) k HKL.out (by have := HLE.out; omega)).mono ?_); rintro e w8 ⟨v', rfl, hd8, hc8, hv8⟩; obtain ⟨A8, n8, c8, rfl⟩ := hd8.sh; have y2 : w8.cell? ⟨tb, 1, none⟩ = some v := hc8.cell y1 hap; have f2 : w8.frozen? ⟨tb, 1, none⟩ = false := ((HH.out.blk.keep hx9).chg hc8 hap).frozen 1)
      | (go_at_call 71; go_loud (refine (tmFindYes HH.out HK.out hx).mono ?_); rintro e w9 ⟨rfl, hx9⟩; have y1 := (hx9.cell (p := ⟨tb, 1, none⟩) htl).trans e1))
    go_ret
    have hb8 := (HH.out.blk.keep hx9).chg hc8 hap
    obtain ⟨v', hv'⟩ : ∃ v', Value.slice A8 n8 c8 = v' := ⟨_, rfl⟩
    rw [hv'] at hd8 hv8 ⊢
    have hc : Chg [tb] w8 (w8.setCell ⟨tb, 1, none⟩ v') := (Chg.refl _ _).setCell (by simp) _
    have hb7 : Blk (w8.setCell ⟨tb, 1, none⟩ v') tb 113 [.int .i64 now, v'] := by simpa using hb8.set_ 1 v'
    have ho7 := hd8.chg hc (fun j hj hm => by rw [hv8] at hj; simp at hm; subst hm; exact hap (by simpa using hj))
    rw [dropK_at HH.out.keys HK.out hx] at ho7
    have hsub : (dropK key L).Sublist L := List.filter_sublist
    exact ⟨_, rfl, .inl ⟨by simp, x, List.mem_of_getElem? HK.out, hx⟩, v', ⟨hb7, ho7, HH.out.low, sort_sub HH.out.srt hsub, Nat.le_trans hsub.length_le HLE.out, nodup_sub HH.out.keys hsub⟩,
      ((Chg.of_ext hx9).trans (hc8.mono (fun y hy => List.mem_cons_of_mem _ hy))).trans (hc.mono (by simp)), fun j hj => .inl (by rw [← hv8]; exact hj)⟩
  · have HH := Lib.hid h
    have HNO := Lib.hid hno
    clear h hno
    go_enter Tryd.func45, Tryd.ntmps45
    go_wp2_with (go_at_call 71; go_loud (refine (tmFindNo HH.out HNO.out).mono ?_); rintro e w9 ⟨rfl, hx9⟩)
    go_ret
    rw [dropK_none HNO.out]
    exact ⟨_, rfl, .inr ⟨by simp, HNO.out⟩, v, HH.out.keep hx9, .of_ext hx9, fun j hj => .inl hj⟩

set_option maxHeartbeats 1000000 in
theorem tmNextNo {w : World} {B tb : Nat} {v : Value} {now : Int} (h : TmAt w B tb v now []) : Calls Tryd.prog 39 #[.pointer (some ⟨tb, 0, none⟩)] w fun e w' => e = .returned (.tuple #[.int .i64 0, .int .i64 0, .bool false]) ∧ Ext w w' := by
  obtain ⟨A, c, rfl, _, _, _⟩ := h.own.rd
  have e1 : w.cell? ⟨tb, 1, none⟩ = some (.slice A 0 c) := h.blk.cell 1
  clear h
  go_enter Tryd.func39, Tryd.ntmps39
  go_wp2
  go_ret3
  exact ⟨rfl, Ext.refl _⟩

set_option maxHeartbeats 1000000 in
theorem tmNext {w : World} {B tb : Nat} {v : Value} {now : Int} {x : Int × Int} {r : List (Int × Int)} (h : TmAt w B tb v now (x :: r)) : Calls Tryd.prog 39 #[.pointer (some ⟨tb, 0, none⟩)] w fun e w' => e = .returned (.tuple #[.int .i64 x.2, .int .i64 x.1, .bool true]) ∧ Ext w w' := by
  obtain ⟨g, cap, rfl, hnc, hcm, z0, z1⟩ := h.cells (k := 0) (x := x) rfl
  have z0' : w.cell? ⟨g, 0, none⟩ = some (.int .i64 x.1) := z0
  have z1' : w.cell? ⟨g, 1, none⟩ = some (.int .i64 x.2) := z1
  have e1 : w.cell? ⟨tb, 1, none⟩ = some (.slice (some ⟨g, 0, none⟩) (r.length + 1) cap) := h.blk.cell 1
  obtain ⟨n, hn⟩ : ∃ n, r.length + 1 = n := ⟨_, rfl⟩
  have hp : 0 < n := by omega
  have hp2 : ((n : Int) == 0) = false := by simp; omega
  rw [hn] at e1
  clear h z0 z1 hn hnc hcm
  go_enter Tryd.func39, Tryd.ntmps39
  go_wp2
  go_quiet (fail)
  go_wp2
  go_ret3
  exact ⟨rfl, Ext.drawn _ _⟩
end Go.Proofs.YtnbdmlpnoiljdaaDoor
