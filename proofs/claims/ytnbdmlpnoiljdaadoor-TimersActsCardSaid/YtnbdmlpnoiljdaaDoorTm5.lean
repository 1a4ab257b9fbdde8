/- Timers: as they stand in memory; New, Now, Len, find, At, Next, Clear. -/
import Derived.Test.YtnbdmlpnoiljdaaDoorTm3
import Derived.Test.YtnbdmlpnoiljdaaDoorTm3b
import Derived.Test.YtnbdmlpnoiljdaaDoorTm4b
import Derived.Test.YtnbdmlpnoiljdaaDoorErrC
import Derived.BigQuiet
namespace Go.Proofs.YtnbdmlpnoiljdaaDoor
open Go Go.RowKit

/-- One is put in. -/
theorem tmInsert {w : World} {B : Nat} {v : Value} {L : List (Int × Int)} (h : TlAt w B v L) (x : Int × Int) (i vb : Nat) (hi : i ≤ L.length) (hvb : Blk w vb 115 [.int .i64 x.1, .int .i64 x.2]) (hne : v.ownBlock ≠ some vb) (hb : L.length ≤ 1000) (hBw : B ≤ w.heap.size) :
    Calls Tryd.prog 74 #[v, .int .i64 i, .slice (some ⟨vb, 0, none⟩) 1 1] w fun e w' => ∃ v', e = .returned v' ∧ TlAt w' B v' (L.take i ++ x :: L.drop i) ∧ Chg v.ownBlock.toList w w' ∧ (v'.ownBlock = v.ownBlock ∨ v'.ownBlock = some w.heap.size) := by
  by_cases hil : i = L.length
  · subst hil
    have := tmInsertEnd h x vb hvb hb hBw
    rwa [List.take_length, List.drop_length]
  have hi' : i < L.length := by omega
  obtain ⟨g, cap, cur, rfl, hg, hB, hnc, hcm, hcl, hct⟩ := h.form (by omega)
  by_cases hroom : L.length + 1 ≤ cap
  · refine (tmInsertRoom (B := B) x i vb hi' hroom hg hB hcm hcl hct rfl hvb (by intro e; subst e; exact hne rfl) hb).mono ?_
    rintro e w' ⟨rfl, h1, h2⟩
    exact ⟨_, rfl, h1, h2, .inl rfl⟩
  · obtain rfl : cap = L.length := by omega
    refine (tmInsertGrow x i vb hi' hB hcl hct rfl hvb hb).mono ?_
    rintro e w' ⟨v', rfl, h1, h2, h3⟩
    exact ⟨_, rfl, h1 B hBw, .of_ext h2, .inr h3⟩

/-- Without a key. -/
def dropK (key : Int) (L : List (Int × Int)) : List (Int × Int) := L.filter fun x => x.2 != key
theorem dropK_none {key : Int} {L : List (Int × Int)} (h : ∀ y ∈ L, y.2 ≠ key) : dropK key L = L := by
  unfold dropK
  rw [List.filter_eq_self]
  intro y hy
  simpa using h y hy
theorem dropK_at {key : Int} {L : List (Int × Int)} (hd : (L.map (·.2)).Nodup) {k : Nat} {x : Int × Int} (hk : L[k]? = some x) (hx : x.2 = key) : L.take k ++ L.drop (k + 1) = dropK key L := by
  induction L generalizing k with
  | nil => simp at hk
  | cons y r ih =>
    simp only [List.map_cons, List.nodup_cons] at hd
    cases k with
    | zero =>
      simp at hk
      subst hk
      have : ∀ z ∈ r, z.2 ≠ key := fun z hz e => hd.1 (by rw [hx, ← e]; exact List.mem_map_of_mem hz)
      have e : dropK key (y :: r) = dropK key r := by simp [dropK, hx]
      rw [e, dropK_none this]
      rfl
    | succ k =>
      have hxr : x ∈ r := List.mem_of_getElem? (by simpa using hk)
      have hy : y.2 ≠ key := fun e => hd.1 (by rw [e, ← hx]; exact List.mem_map_of_mem hxr)
      have := ih hd.2 (by simpa using hk)
      simp [dropK, hy] at this ⊢
      exact this
theorem sort_sub {L M : List (Int × Int)} (h : sortP L) (hs : M.Sublist L) : sortP M := by
  induction hs with
  | slnil => trivial
  | cons _ _ ih => exact ih h.2
  | cons_cons _ hs ih => exact ⟨fun y hy => h.1 y (hs.subset hy), ih h.2⟩
theorem nodup_sub {L M : List (Int × Int)} (h : (L.map (·.2)).Nodup) (hs : M.Sublist L) : (M.map (·.2)).Nodup := h.sublist (hs.map _)
theorem sort_ins {L : List (Int × Int)} (h : sortP L) {x : Int × Int} (hk : ∀ y ∈ L, y.2 ≠ x.2) : ∀ {k : Nat}, Place L x k → sortP (L.take k ++ x :: L.drop k) := by
  induction L with
  | nil => intro k _; simp [sortP]
  | cons y r ih =>
    intro k hp
    obtain ⟨h1, h2⟩ := h
    cases k with
    | zero =>
      simp only [List.take_zero, List.drop_zero, List.nil_append]
      have hyx : ¬ ltP y x := hp.2.2 0 y rfl (Nat.le_refl _)
      have hne := hk y (by simp)
      have hxy : ltP x y := by unfold ltP at *; omega
      exact ⟨fun z hz => by rcases List.mem_cons.1 hz with rfl | hz; exact hxy; exact ltP_trans hxy (h1 z hz), h1, h2⟩
    | succ k =>
      have hyx : ltP y x := hp.2.1 0 y rfl (by omega)
      refine ⟨fun z hz => ?_, ih h2 (fun z hz => hk z (by simp [hz])) ⟨by have := hp.1; simp at this; omega, fun j z hj hl => hp.2.1 (j + 1) z (by simpa using hj) (by omega), fun j z hj hl => hp.2.2 (j + 1) z (by simpa using hj) (by omega)⟩⟩
      change z ∈ r.take k ++ x :: r.drop k at hz
      rcases List.mem_append.1 hz with hz | hz
      · exact h1 z (List.mem_of_mem_take hz)
      rcases List.mem_cons.1 hz with rfl | hz
      · exact hyx
      · exact h1 z (List.mem_of_mem_drop hz)
theorem ins_perm (L : List (Int × Int)) (x : Int × Int) (k : Nat) : (L.take k ++ x :: L.drop k).Perm (x :: L) := by
  have h : (L.take k ++ x :: L.drop k).Perm (x :: (L.take k ++ L.drop k)) := List.perm_middle
  rwa [List.take_append_drop] at h

/-- Timers as they stand. -/
structure TmAt (w : World) (B tb : Nat) (v : Value) (now : Int) (L : List (Int × Int)) : Prop where
  blk : Blk w tb 113 [.int .i64 now, v]
  own : TlAt w B v L
  low : B ≤ tb
  srt : sortP L
  len : L.length ≤ 16
  keys : (L.map (·.2)).Nodup
theorem TlAt.apart {w : World} {B : Nat} {v : Value} {L : List (Int × Int)} (h : TlAt w B v L) {tb : Nat} {e : TypeId} {cs : List Value} (hb : Blk w tb e cs) (he : e ≠ 115) : v.ownBlock ≠ some tb := by
  rcases h.2 with ⟨rfl, _⟩ | ⟨g, cap, cur, rfl, _, h3, _⟩
  · simp [Value.ownBlock]
  · intro hg
    simp [Value.ownBlock] at hg
    subst hg
    unfold Blk at hb
    rw [hb] at h3
    simp at h3
    exact he h3.2
theorem TlAt.lt {w : World} {B : Nat} {v : Value} {L : List (Int × Int)} (h : TlAt w B v L) {k : Nat} (hk : v.ownBlock = some k) : B ≤ k ∧ k < w.heap.size := by
  rcases h.2 with ⟨rfl, _⟩ | ⟨g, cap, cur, rfl, h2, h3, _⟩
  · simp [Value.ownBlock] at hk
  · simp [Value.ownBlock] at hk
    subst hk
    exact ⟨h2, (Array.getElem?_eq_some_iff.1 h3).1⟩
theorem TmAt.chg {w w' : World} {B tb : Nat} {v : Value} {now : Int} {L : List (Int × Int)} {X : List Nat} (h : TmAt w B tb v now L) (hc : Chg X w w') (h1 : tb ∉ X) (h2 : ∀ k, v.ownBlock = some k → k ∉ X) : TmAt w' B tb v now L :=
  ⟨h.blk.chg hc h1, h.own.chg hc h2, h.low, h.srt, h.len, h.keys⟩
theorem TmAt.keep {w w' : World} {B tb : Nat} {v : Value} {now : Int} {L : List (Int × Int)} (h : TmAt w B tb v now L) (hx : Ext w w') : TmAt w' B tb v now L := h.chg (X := []) (.of_ext hx) (by simp) (by simp)
/-- A call has turned them. -/
def TmTurned (w w' : World) (B tb : Nat) (v : Value) (now : Int) (L : List (Int × Int)) : Prop :=
  ∃ v', TmAt w' B tb v' now L ∧ Chg (tb :: v.ownBlock.toList) w w' ∧ ∀ k, v'.ownBlock = some k → v.ownBlock = some k ∨ w.heap.size ≤ k

set_option maxHeartbeats 400000 in
theorem tmNew (w : World) : Calls Tryd.prog 37 #[] w fun e w' => e = .returned (.pointer (some ⟨w.heap.size, 0, none⟩)) ∧ TmAt w' w.heap.size w.heap.size (.slice none 0 0) 0 [] ∧ Ext w w' := by
  go_enter Tryd.func37, Tryd.ntmps37
  go_wp2
  go_ret
  exact ⟨rfl, ⟨Blk.newL w 113 [.int .i64 0, .slice none 0 0], World.ownsRow_nil _ _ _ _, Nat.le_refl _, trivial, by simp, by simp⟩, Ext.new1 _ _⟩

set_option maxHeartbeats 400000 in
theorem tmNow {w : World} {B tb : Nat} {v : Value} {now : Int} {L : List (Int × Int)} (h : TmAt w B tb v now L) : Calls Tryd.prog 42 #[.pointer (some ⟨tb, 0, none⟩)] w fun e w' => e = .returned (.int .i64 now) ∧ w' = w := by
  have e0 : w.cell? ⟨tb, 0, none⟩ = some (.int .i64 now) := h.blk.cell 0
  clear h
  go_enter Tryd.func42, Tryd.ntmps42
  go_wp2
  go_ret
  exact ⟨rfl, rfl⟩

set_option maxHeartbeats 400000 in
theorem tmLen {w : World} {B tb : Nat} {v : Value} {now : Int} {L : List (Int × Int)} (h : TmAt w B tb v now L) : Calls Tryd.prog 40 #[.pointer (some ⟨tb, 0, none⟩)] w fun e w' => e = .returned (.int .i64 L.length) ∧ w' = w := by
  obtain ⟨A, c, rfl, _, _, _⟩ := h.own.rd
  have e1 : w.cell? ⟨tb, 1, none⟩ = some (.slice A L.length c) := h.blk.cell 1
  clear h
  go_enter Tryd.func40, Tryd.ntmps40
  go_wp2
  go_ret
  exact ⟨rfl, rfl⟩

set_option maxHeartbeats 1000000 in
theorem tmFind {w : World} {B tb : Nat} {v : Value} {now : Int} {L : List (Int × Int)} (h : TmAt w B tb v now L) (key : Int) : Calls Tryd.prog 71 #[.pointer (some ⟨tb, 0, none⟩), .int .i64 key] w fun e w' => ∃ r : Int, e = .returned (.int .i64 r) ∧ KeyAt L key r ∧ Ext w w' := by
  obtain ⟨A, c, rfl, _, _, hr⟩ := h.own.rd
  have hlen := h.len
  have hx := Ext.new1 w (.cells #[.int .i64 key] 3)
  have hb := h.blk.keep hx
  have e1 : (w.alloc (.cells #[.int .i64 key] 3)).cell? ⟨tb, 1, none⟩ = some (.slice A L.length c) := hb.cell 1
  have hB := Blk.new w 3 #[.int .i64 key]
  have hk : (w.alloc (.cells #[.int .i64 key] 3)).cell? ⟨w.heap.size, 0, none⟩ = some (.int .i64 key) := hB.cell 0
  have HR := Lib.hid (hr.keep hx)
  have hkl := hB.lt
  clear h hb hB hr
  go_enter Tryd.func71, Tryd.ntmps71
  go_wp2_with (go_at_call 83; go_loud (refine (tmIndex HR.out (by omega) key _ hk hkl).mono ?_); rintro e w' ⟨r, rfl, hka, hx9⟩)
  go_ret
  exact ⟨_, rfl, hka, hx.trans hx9⟩
end Go.Proofs.YtnbdmlpnoiljdaaDoor
