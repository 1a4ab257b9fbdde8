/- Globs: sizes; alive. -/
import Derived.Test.YtlofdnefbgjmpaaDoorGl7
namespace Go.Proofs.YtlofdnefbgjmpaaDoor
open Go Go.RowKit
attribute [local irreducible] wd

theorem rowT_size (ts : List T) : (rowT ts).size ≤ 1 + sizeL ts := by
  match ts with
  | [] => show T.size (.node 3 0 false noP []) ≤ _; simp [T.size]
  | [t] => show t.size ≤ _; simp [sizeL]
  | a :: b :: r => show T.size (.node 3 0 false noP (a :: b :: r)) ≤ _; simp [T.size]
theorem item_size (l : List UInt8) : (itemG l).1.size ≤ 2 := by
  cases l with
  | nil => simp [itemG, allT, T.size, sizeL]
  | cons c r => rw [itemG_cons]; (repeat' split) <;> simp [allT, byteT, T.size, sizeL]
theorem items_size : ∀ f l acc t i gr, itemsG f l acc = .ok t i gr → t.size ≤ 1 + sizeL acc + 2 * l.length := by
  intro f
  induction f with
  | zero => intro l acc t i gr h; rw [itemsG] at h; cases h
  | succ f ih =>
    intro l acc t i gr h
    rw [itemsG] at h
    by_cases hl : l = []
    · rw [if_pos hl] at h
      cases h
      have := rowT_size acc
      omega
    · rw [if_neg hl] at h
      by_cases he : (itemG l).2.2 = 0
      · rw [if_pos he] at h
        have h1 := ih _ _ _ _ _ h
        have h2 := item_size l
        have h3 := item_pos hl he
        rw [sizeL_append, List.length_drop] at h1
        simp [sizeL] at h1
        omega
      · rw [if_neg he] at h; cases h
theorem size_short {l : List UInt8} (h : sizeErr l = 0) : l.length ≤ 120 := by
  unfold sizeErr at h
  by_cases h1 : 120 < l.length
  · rw [if_pos h1] at h; omega
  · omega
theorem sizeL_bytes (l : List UInt8) : sizeL (l.map byteT) = l.length := by
  induction l with
  | nil => simp [sizeL]
  | cons c r ih => rw [List.map_cons, sizeL, ih]; simp [byteT, T.size, sizeL]; omega
theorem plain_size {l : List UInt8} {t : T} {i gr : Nat} (h : plainG l = .ok t i gr) : t.size ≤ 1000 := by
  unfold plainG at h
  by_cases hs : sizeErr l = 0
  · rw [if_pos hs] at h
    cases h
    have := rowT_size (l.map byteT)
    have := size_short hs
    rw [sizeL_bytes] at *
    omega
  · rw [if_neg hs] at h; cases h
theorem parse_size {l : List UInt8} {t : T} {i gr : Nat} (h : parseG l = .ok t i gr) : t.size ≤ 1000 := by
  unfold parseG at h
  by_cases hs : sizeErr l = 0
  · rw [if_pos hs] at h
    have h1 := items_size _ _ _ _ _ _ h
    have := size_short hs
    simp [sizeL] at h1
    omega
  · rw [if_neg hs] at h; cases h
theorem of_size {kind : Int} {l : List UInt8} {t : T} {i gr : Nat} (h : ofG kind l = .ok t i gr) : t.size ≤ 1000000 := by
  have key : ∀ r : PR, (∀ t i gr, r = .ok t i gr → t.size ≤ 1000) → noNull r = .ok t i gr → t.size ≤ 1000000 := by
    intro r hr h
    cases r with
    | out => cases h
    | err k => cases h
    | ok t' i' gr' =>
      cases hn : t'.nullable
      · rw [noNull_ok hn] at h
        have := hr _ _ _ h
        omega
      · rw [noNull_no hn] at h; cases h
  by_cases h1 : kind = 1
  · subst h1; exact key _ (fun t i gr => plain_size) h
  by_cases h2 : kind = 2
  · subst h2; exact key _ (fun t i gr => parse_size) h
  by_cases h3 : kind = 3
  · subst h3; exact key _ (fun t i gr h => Nat.le_trans (parseR_size h) (by omega)) h
  · have : ofG kind l = .err 9 := by unfold ofG; rw [if_neg h1, if_neg h2, if_neg h3]
    rw [this] at h; cases h

theorem cell_keep {w w' : World} {a : Addr} {x : Value} (h : w.cell? a = some x) (hx : Ext w w') : w'.cell? a = some x := (Below.cell hx (p := a) (block_lt_of_cell h)).trans h

/-- The chapter's example. -/
theorem ex24 : parseG [97, 42] = .ok (.node 3 0 false noP [byteT 97, .node 5 0 false noP [allT]]) 0 0 := rfl
theorem ex24q : quoteG [97, 42] = [97, 92, 120, 50, 97] := by decide
set_option maxHeartbeats 4000000 in
set_option maxRecDepth 20000 in
theorem alive24 (E : Nat → Addr) (w : World) (hE : Env E w) (hW : w.cell? ⟨5, 2, none⟩ = some (.string ⟨#[103, 108, 111, 98]⟩)) :
    Calls Tryd.prog 11 #[] w fun e w' => e = .returned (.bool true) ∧ Ext w w' := by
  have HP := Lib.hid (glParse E [97, 42] (by simp) w hE)
  have HQ := Lib.hid (fun w => glQuote [97, 42] (by simp) w)
  have HW := Lib.hid hW
  have HX := Lib.hid ex24
  have HXQ := Lib.hid ex24q
  clear hW hE
  go_enter Tryd.func11, Tryd.ntmps11
  go_wp2_with fail
  go_at_call 16
  refine HP.out.mono ?_
  rintro e w1 hR
  rw [HX.out] at hR
  obtain ⟨hx1, v, rfl, hv⟩ := hR
  unfold NodeV at hv
  obtain ⟨A, c, cs, rfl, hcp, hcm, hRd, hS, hK⟩ := hv
  obtain ⟨b, o, k', m', z', p', B', n', c', rfl, hkid, hk⟩ := kid_at hRd hK (i := 1) (by simp)
  have hk5 : k' = 5 := by
    have h0 : NodeV _ w1 (.node 5 0 false noP [allT]) (nodeC k' m' z' p' B' n' c') := hkid
    unfold NodeV at h0
    obtain ⟨_, _, _, e, _⟩ := h0
    simp [nodeC] at e
    exact e.1
  subst hk5
  have hx2 := Ext.new1 w1 (.cells (nodeC 3 0 false noP (some ⟨b, o, none⟩) 2 c).toArray 28)
  have hB := NodeB.new w1 3 0 false noP (some ⟨b, o, none⟩) 2 c
  obtain ⟨d0, d1, d2, d3, d4, d5, d6, d7⟩ := hk.out _ hx2
  have HX2 := Lib.hid (Ext.trans hx1 hx2)
  have hW2 := cell_keep HW.out HX2.out
  have HB := Lib.hid hB
  simp only [List.length_cons, List.length_nil, Nat.zero_add] at hcp
  have hc2 : (2 : Int) ≤ (c : Int) := by omega
  clear hx1 hx2 hk hkid hK hRd hS hB hcm d1 d2 d3 d4 d5 d6 d7
  simp only [Nat.one_mul] at d0
  unfold nodeC at d0 HX2 hW2 HB ⊢
  go_upto_region 2 with fail
  generalize w1.alloc (.cells #[.int .i64 3, .int .i64 0, .bool false, .int .u64 (wd noP 0 : Nat), .int .u64 (wd noP 1 : Nat), .int .u64 (wd noP 2 : Nat), .int .u64 (wd noP 3 : Nat), .slice (some ⟨b, o, none⟩) 2 c] 28) = w2 at *
  generalize w1.heap.size = gn at *
  obtain ⟨y0, y1, y2, y3, y4, y5, y6, y7⟩ := HB.out.cells
  go_wp2_with (first
    | (go_at_call 46; refine (glWord2 _ hW2).mono ?_; rintro e w3 ⟨rfl, rfl⟩)
    | (go_at_call 15; refine (HQ.out _).mono ?_; rintro e w4 ⟨rfl, hx4⟩; rw [HXQ.out]))
  go_ret
  exact ⟨rfl, Ext.trans HX2.out hx4⟩
theorem RRes.any {E : Nat → Addr} {w w' : World} {r : PR} {e : Ending} (h : RRes E w r e w') : Ext w w' ∧ ∃ kk mm zz qq BB nn cc v, e = .returned (.tuple #[.agg (nodeC kk mm zz qq BB nn cc).toArray, v]) := by
  refine ⟨h.1, ?_⟩
  cases r with
  | out => exact h.2.elim
  | err k =>
    obtain ⟨_, k', rfl, rfl⟩ := h
    exact ⟨0, 0, false, noP, none, 0, 0, ev E (k' + 1), by rw [node0]; rfl⟩
  | ok t i gr =>
    obtain ⟨_, v, rfl, hv⟩ := h
    obtain ⟨kk, mm, zz, qq, BB, nn, cc, rfl⟩ := nodeV_form hv
    exact ⟨kk, mm, zz, qq, BB, nn, cc, _, rfl⟩
mutual
theorem same_self : ∀ t : T, t.same t = true
  | .node _ _ _ p ks => same_node.2 ⟨rfl, rfl, rfl, sameP_refl p, sameL_self ks⟩
theorem sameL_self : ∀ ks : List T, sameL ks ks = true
  | [] => by unfold sameL; rfl
  | t :: ts => by unfold sameL; rw [same_self t, sameL_self ts]; rfl
end
end Go.Proofs.YtlofdnefbgjmpaaDoor
