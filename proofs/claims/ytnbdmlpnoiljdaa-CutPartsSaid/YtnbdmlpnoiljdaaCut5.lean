/- layer 39: Atoms and Split. -/
import Derived.Test.YtnbdmlpnoiljdaaCut4
namespace Go.Proofs.Ytnbdmlpnoiljdaa
open Go Go.RowKit

theorem cuts_one (e : Ev) (N : Nat) : ∀ (f a c : Nat), N ≤ a + f → (cutsE (fun _ => 1) e N f a c).1 = (List.range' a (N - a)).map fun i => partE e i (i + 1) := by
  intro f
  induction f with
  | zero => intro a c h; simp [cutsE, show N - a = 0 by omega]
  | succ f ih =>
    intro a c h
    by_cases hlt : a < N
    · have hm : min (a + 1) N = a + 1 := by omega
      simp only [cutsE, if_pos hlt, hm]
      rw [ih (a + 1) (c + 1) (by omega), show N - a = (N - (a + 1)) + 1 by omega, List.range'_succ]
      rfl
    · simp [cutsE, hlt, show N - a = 0 by omega]
theorem split_one (c : Nat) (e : Ev) : (splitE (fun _ => 1) c e).1 = atomsE e := by
  unfold splitE atomsE
  split
  · split
    · rfl
    · rw [cuts_one _ _ _ _ _ (by omega), Nat.sub_zero, List.range_eq_range']
  · rfl
theorem split_ones : ∀ (l : List Ev) (c : Nat), (splitL (fun _ => 1) l c).1 = atoms l := by
  intro l
  induction l with
  | nil => intro c; rfl
  | cons e r ih => intro c; simp only [splitL, split_one, ih]; rfl

theorem oneNext (B : Nat) : NextFn 23 #[] (fun _ _ => True) (fun _ => 1) [] B := by
  refine ⟨fun w k _ => ?_, fun _ _ _ _ _ _ _ => trivial, fun _ => ⟨Nat.le_refl _, by omega⟩, enters_of Try.func23 (by kernel_rfl) rfl⟩
  go_enter Try.func23, Try.ntmps23
  go_wp2
  go_ret
  exact ⟨rfl, trivial, .refl _ _⟩

theorem OutAt.weak {w : World} {B B' : Nat} {X X' : List Nat} {v : Value} {es : List Ev} (h : OutAt w B X v es) (hB : B' ≤ B) (hx : ∀ x ∈ X', x ∈ X) : OutAt w B' X' v es := by
  obtain ⟨vs, h1, h2, h3, h4⟩ := h
  refine ⟨vs, h1, own_mono h2 hB, fun k hk hm => h3 k hk (hx k hm), fun j e u he hu => (h4 j e u he hu).step (.refl [] w) (by simp) fun x hm => .inl ?_⟩
  rcases List.mem_append.1 hm with h | h
  · exact List.mem_append_left _ h
  · exact List.mem_append_right _ (hx x h)
theorem EvsRd.sub {w : World} {X X' : List Nat} {A : Option Addr} {n : Nat} {es : List Ev} (h : EvsRd w X A n es) (hx : ∀ x ∈ X', x ∈ X ∨ w.heap.size ≤ x) : EvsRd w X' A n es := by
  obtain ⟨vs, h1, h2, h3, h4⟩ := h
  exact ⟨vs, h1, h2, h3, fun j e v he hv => (h4 j e v he hv).step (.refl [] w) (by simp) hx⟩

set_option maxHeartbeats 400000 in
theorem cutAtoms {w : World} {es : List Ev} {A : Option Addr} {n c : Nat} (hr : EvsRd w [] A n es) (hn : n ≤ 100000) (hnc : n ≤ c) :
    Calls Try.prog 9 #[.slice A n c] w fun r w' => ∃ v, r = .returned v ∧ OutAt w' w.heap.size [] v (atoms es) ∧ Ext w w' := by
  go_enter Try.func9, Try.ntmps9
  go_wp2_with (go_at_call 22; refine (cutParted (oneNext w.heap.size) es A n c hr (by simp) trivial hn hnc (by simp)).mono ?_; rw [split_ones]; rintro e w1 ⟨v1, rfl, ho1, hc1⟩)
  go_ret
  exact ⟨_, rfl, ho1, hc1.ext (by simp)⟩

/-- How much comes next, by a row of sizes. -/
def szOf (l : List Int) (k : Nat) : Nat := if l = [] then 9999 else (min (max (l.getD (k % l.length) 0) 1) 9999).toNat
theorem szOf_pos (l : List Int) (k : Nat) : 1 ≤ szOf l k ∧ szOf l k ≤ 9999 := by unfold szOf; split <;> omega
/-- The two variables that Split's closure has. -/
def SizesAt (bs ba : Nat) (l : List Int) (w : World) (k : Nat) : Prop :=
  ∃ (z : Int) (A : Option Addr) (c : Nat), Blk w bs 23 [.slice A l.length c] ∧ Rd w 1 A l.length (intsV l) ∧ Blk w ba 3 [.int .i64 z] ∧ (l ≠ [] → z = if k = 0 then -1 else (((k - 1) % l.length : Nat) : Int)) ∧ (∀ b o s, A = some ⟨b, o, s⟩ → 0 < l.length → b ≠ ba)
theorem sizes_stable {bs ba B : Nat} {l : List Int} (h1 : bs < B) (h2 : ba < B) (w w' : World) (k : Nat) (Y : List Nat) (h : SizesAt bs ba l w k ∧ (∀ A c, Blk w bs 23 [.slice A l.length c] → ∀ b o s, A = some ⟨b, o, s⟩ → 0 < l.length → b < B)) (hc : Chg Y w w') (hy : ∀ y ∈ Y, B ≤ y) :
    SizesAt bs ba l w' k ∧ (∀ A c, Blk w' bs 23 [.slice A l.length c] → ∀ b o s, A = some ⟨b, o, s⟩ → 0 < l.length → b < B) := by
  obtain ⟨⟨z, A, c, hb, hr, ha, hz, hne⟩, hlt⟩ := h
  have hb' := hb.chg hc (fun h => by have := hy _ h; omega)
  refine ⟨⟨z, A, c, hb', hr.chg hc (fun hp b o v e hm => ?_), ha.chg hc (fun h => by have := hy _ h; omega), hz, hne⟩, fun A' c' hA => ?_⟩
  · have := hlt A c hb b o v e (by simpa [intsV] using hp)
    have := hy b hm
    omega
  · have he : A' = A := by
      unfold Blk at hA hb'
      rw [hA] at hb'
      simp at hb'
      exact hb'.1
    subst he
    exact hlt A' c hb

set_option maxHeartbeats 1000000 in
set_option maxRecDepth 20000 in
theorem sizesNext (bs ba B : Nat) (l : List Int) (h1 : bs < B) (h2 : ba < B) (hne : bs ≠ ba) (hl : l.length ≤ 1000000) (hb : ∀ x ∈ l, -9223372036854775808 ≤ x ∧ x ≤ 9223372036854775807) :
    NextFn 27 #[.pointer (some ⟨bs, 0, none⟩), .pointer (some ⟨ba, 0, none⟩)] (fun w k => SizesAt bs ba l w k ∧ (∀ A c, Blk w bs 23 [.slice A l.length c] → ∀ b o s, A = some ⟨b, o, s⟩ → 0 < l.length → b < B)) (szOf l) [ba] B := by
  refine ⟨fun w k hI => ?_, fun w w' k Y h hc hy => sizes_stable h1 h2 w w' k Y h hc hy, szOf_pos l, enters_of Try.func27 (by kernel_rfl) rfl⟩
  obtain ⟨⟨z, A, c, hbs, hr, hba, hz, hab⟩, hlt⟩ := hI
  have e0 : w.cell? ⟨bs, 0, none⟩ = some (.slice A l.length c) := hbs.cell 0
  have a0 : w.cell? ⟨ba, 0, none⟩ = some (.int .i64 z) := hba.cell 0
  have f0 := hba.frozen 0
  by_cases hl0 : l = []
  · subst hl0
    have hsz : (szOf [] k : Int) = 9999 := rfl
    rw [hsz]
    have HH := Lib.hid (show SizesAt bs ba [] w (k + 1) from ⟨z, A, c, hbs, hr, hba, fun h => absurd rfl h, hab⟩)
    clear hz hsz
    go_enter Try.func27, Try.ntmps27
    go_wp2
    go_ret
    exact ⟨rfl, ⟨HH.out, hlt⟩, .refl _ _⟩
  · have hz' := hz hl0
    have hlp : 0 < l.length := List.length_pos_iff.2 hl0
    obtain ⟨q, hq⟩ : ∃ q, k % l.length = q := ⟨_, rfl⟩
    have hql : q < l.length := by rw [← hq]; exact Nat.mod_lt _ hlp
    obtain ⟨x, hx⟩ : ∃ x, l[q]? = some x := ⟨_, List.getElem?_eq_getElem hql⟩
    have hszk : szOf l k = (min (max x 1) 9999).toNat := by
      unfold szOf
      rw [if_neg hl0, hq]
      simp [List.getD, hx]
    have hxb := hb x (List.mem_of_getElem? hx)
    have hzm : (z + 1) % (l.length : Int) = q := by
      rw [hz']
      split
      · next h => subst h; simp at hq; rw [← hq]; simp
      · next h => 
        rw [← hq, show ((((k - 1) % l.length : Nat) : Int) + 1) = (((k - 1) % l.length + 1 : Nat) : Int) by omega, ← Int.natCast_emod]
        congr 1
        rw [Nat.add_mod, Nat.mod_mod, ← Nat.add_mod, show k - 1 + 1 = k by omega]
    have hzb : -1 ≤ z ∧ z < 1000000 := by
      rw [hz']
      split
      · omega
      · have := Nat.mod_lt (k - 1) hlp; omega
    obtain ⟨b, o, rfl, hbl, hc⟩ := hr.2 (by simp [intsV]; omega)
    have hcx : w.cell? ⟨b, o + q, none⟩ = some (.int .i64 x) := hc q _ (by simp [intsV, hx])
    have hbba := hab b o none rfl hlp
    have hmod : (z + 1).tmod (l.length : Int) = (q : Int) := by rw [Int.tmod_eq_emod_of_nonneg (by omega)]; exact hzm
    have hmx : (if x < 1 then 1 else x) = max x 1 := by split <;> omega
    have hmn : (if 9999 < max x 1 then 9999 else max x 1) = ((szOf l k : Nat) : Int) := by rw [hszk]; split <;> omega
    have hl0' : ((l.length : Int) == 0) = false := by simpa using hl0
    have hq1 : ((k + 1 - 1) % l.length : Nat) = q := by rw [Nat.add_sub_cancel]; exact hq
    have HQ1 := Lib.hid hq1
    have HL0 := Lib.hid hl0
    have hmod0 : ((l.length : Int) = 0) = False := by simp; omega
    have hqb : (q : Int) < l.length := by omega
    have hc0 : Chg [ba] w (w.setCell ⟨ba, 0, none⟩ (.int .i64 q)) := (Chg.refl _ _).setCell (by simp) _
    have hbs' : Blk (w.setCell ⟨ba, 0, none⟩ (.int .i64 q)) bs 23 [.slice (some ⟨b, o, none⟩) l.length c] := hbs.far hne _
    have hfin : SizesAt bs ba l (w.setCell ⟨ba, 0, none⟩ (.int .i64 q)) (k + 1) := by
      refine ⟨q, some ⟨b, o, none⟩, c, hbs', hr.chg hc0 (fun _ b' o' s' e hm => ?_), by simpa using hba.set_ 0 (.int .i64 q), fun _ => by rw [if_neg (by omega), hq1], hab⟩
      cases e
      simp at hm
      exact hbba hm
    have hlt' : ∀ A c', Blk (w.setCell ⟨ba, 0, none⟩ (.int .i64 q)) bs 23 [.slice A l.length c'] → ∀ b' o' s', A = some ⟨b', o', s'⟩ → 0 < l.length → b' < B := fun A' c' hA => by
      have he : A' = some ⟨b, o, none⟩ := by
        have hb2 := hbs'
        unfold Blk at hA hb2
        rw [hA] at hb2
        simp at hb2
        exact hb2.1
      subst he
      exact hlt _ c hbs
    have HFIN := Lib.hid hfin
    have HLT := Lib.hid hlt'
    have HC0 := Lib.hid hc0
    obtain ⟨s, hs⟩ : ∃ s, szOf l k = s := ⟨_, rfl⟩
    rw [hs] at hmn ⊢
    obtain ⟨mx, hmxx⟩ : ∃ mx, max x 1 = mx := ⟨_, rfl⟩
    rw [hmxx] at hmx hmn
    clear hz hz' hq hx hszk hzm hlt hab hr hc hfin hlt' hc0 hq1 hl0 hbs' hs hmxx HL0 HQ1
    go_enter Try.func27, Try.ntmps27
    go_wp2
    go_ret
    exact ⟨rfl, ⟨HFIN.out, HLT.out⟩, HC0.out⟩

set_option maxHeartbeats 1000000 in
theorem cutSplit {w : World} {es : List Ev} {A B : Option Addr} {n c m d : Nat} {l : List Int} (hr : EvsRd w [] A n es) (hn : n ≤ 100000) (hnc : n ≤ c) (hs : Rd w 1 B m (intsV l)) (hm : m ≤ 1000000) (hb : ∀ x ∈ l, -9223372036854775808 ≤ x ∧ x ≤ 9223372036854775807) :
    Calls Try.prog 13 #[.slice A n c, .slice B m d] w fun r w' => ∃ v, r = .returned v ∧ OutAt w' w.heap.size [] v (splitL (szOf l) es 0).1 ∧ Ext w w' := by
  have hl := hs.len_ints
  have hx2 := (Ext.new1 w (.cells #[.slice B m d] 23)).trans (Ext.new1 _ (.cells #[.int .i64 (-1)] 3))
  have hbs : Blk ((w.alloc (.cells #[.slice B m d] 23)).alloc (.cells #[.int .i64 (-1)] 3)) w.heap.size 23 [.slice B l.length d] := by rw [hl]; exact (Blk.new w 23 #[.slice B m d]).alloc _
  have hba : Blk ((w.alloc (.cells #[.slice B m d] 23)).alloc (.cells #[.int .i64 (-1)] 3)) (w.heap.size + 1) 3 [.int .i64 (-1)] := by
    have := Blk.new (w.alloc (.cells #[.slice B m d] 23)) 3 #[.int .i64 (-1)]
    simpa using this
  have hsz : w.heap.size + 2 = ((w.alloc (.cells #[.slice B m d] 23)).alloc (.cells #[.int .i64 (-1)] 3)).heap.size := by simp
  have hrS : Rd ((w.alloc (.cells #[.slice B m d] 23)).alloc (.cells #[.int .i64 (-1)] 3)) 1 B l.length (intsV l) := by rw [hl]; exact hs.keep hx2
  have hold : ∀ b o s, B = some ⟨b, o, s⟩ → 0 < l.length → b < w.heap.size := fun b o s e hp => by
    obtain ⟨b', o', e', hlt, _⟩ := hs.2 (by simpa [intsV] using hp)
    rw [e] at e'; cases e'; exact hlt
  have hI : SizesAt w.heap.size (w.heap.size + 1) l ((w.alloc (.cells #[.slice B m d] 23)).alloc (.cells #[.int .i64 (-1)] 3)) 0 := ⟨-1, B, d, hbs, hrS, hba, fun _ => rfl, fun b o s e hp => by have := hold b o s e hp; omega⟩
  have hI2 : ∀ A c, Blk ((w.alloc (.cells #[.slice B m d] 23)).alloc (.cells #[.int .i64 (-1)] 3)) w.heap.size 23 [.slice A l.length c] → ∀ b o s, A = some ⟨b, o, s⟩ → 0 < l.length → b < w.heap.size + 2 := fun A' c' hA b o s e hp => by
    have he : A' = B := by
      have hb2 := hbs
      unfold Blk at hA hb2
      rw [hA] at hb2
      simp at hb2
      exact hb2.1
    subst he
    have := hold b o s e hp
    omega
  have hEv := (hr.sub (X' := [w.heap.size + 1]) (fun x hx => .inr (by simp at hx; omega))).keep hx2
  have hX : ∀ x ∈ [w.heap.size + 1], x < ((w.alloc (.cells #[.slice B m d] 23)).alloc (.cells #[.int .i64 (-1)] 3)).heap.size := fun x hx => by rw [← hsz]; simp at hx; omega
  have hAX : 0 < n → ∀ b o s, A = some ⟨b, o, s⟩ → b ∉ [w.heap.size + 1] := fun hp b o s e hx => by
    obtain ⟨vs, h1, h2, h3, _⟩ := hr
    obtain ⟨b', o', e', hlt, _⟩ := h3.2 (by rw [evCells_len es vs h1]; omega)
    rw [e] at e'; cases e'
    simp at hx; omega
  have F := sizesNext w.heap.size (w.heap.size + 1) ((w.alloc (.cells #[.slice B m d] 23)).alloc (.cells #[.int .i64 (-1)] 3)).heap.size l (by rw [← hsz]; omega) (by rw [← hsz]; omega) (by omega) (by omega) hb
  have hI3 := hI2
  rw [hsz] at hI3
  have HI := Lib.hid hI
  have HI3 := Lib.hid hI3
  have HF := Lib.hid F
  have HE := Lib.hid hEv
  have HX := Lib.hid hX
  have HAX := Lib.hid hAX
  clear hI hI2 hI3 hEv hX hAX F hbs hba hrS hold hs hl
  go_enter Try.func13, Try.ntmps13
  go_wp2_with (go_at_call 22; refine (cutParted HF.out es A n c HE.out HX.out ⟨HI.out, HI3.out⟩ hn hnc HAX.out).mono ?_; rintro e w1 ⟨v1, rfl, ho1, hc1⟩)
  go_ret
  refine ⟨_, rfl, ho1.weak (by rw [← hsz]; omega) (by simp), ?_⟩
  exact hc1.below hx2 hx2.size (by simp)
end Go.Proofs.Ytnbdmlpnoiljdaa
