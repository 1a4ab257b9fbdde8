/- Timers: their list in memory; slices.Delete and slices.Insert at it. -/
import Derived.Test.YtnbdmlpnoiljdaaDoorRowK
import Derived.Test.YtnbdmlpnoiljdaaDoorStrs
import Derived.BigRegion
import Derived.Lib.Overlaps
import Derived.Laws.Externs
import Derived.Handy
namespace Go.Proofs.YtnbdmlpnoiljdaaDoor
open Go Go.RowKit

/-- Pairs as cells: when, which. -/
def tmC (L : List (Int × Int)) : List Value := L.flatMap fun x => [.int .i64 x.1, .int .i64 x.2]
theorem tmC_len (L : List (Int × Int)) : (tmC L).length = L.length * 2 := by
  induction L with
  | nil => rfl
  | cons x r ih => simp [tmC] at ih ⊢; omega
theorem tmC_append (L M : List (Int × Int)) : tmC (L ++ M) = tmC L ++ tmC M := by simp [tmC]
theorem tmC_take (L : List (Int × Int)) (i : Nat) : (tmC L).take (i * 2) = tmC (L.take i) := by
  by_cases hi : i ≤ L.length
  · have h : tmC L = tmC (L.take i) ++ tmC (L.drop i) := by rw [← tmC_append, List.take_append_drop]
    rw [h, List.take_left' (by rw [tmC_len, List.length_take]; omega)]
  · rw [List.take_of_length_le (by rw [tmC_len]; omega), List.take_of_length_le (by omega)]
theorem tmC_drop (L : List (Int × Int)) (i : Nat) : (tmC L).drop (i * 2) = tmC (L.drop i) := by
  by_cases hi : i ≤ L.length
  · have h : tmC L = tmC (L.take i) ++ tmC (L.drop i) := by rw [← tmC_append, List.take_append_drop]
    rw [h, List.drop_left' (by rw [tmC_len, List.length_take]; omega)]
  · rw [List.drop_of_length_le (by rw [tmC_len]; omega), List.drop_of_length_le (by omega)]; rfl
theorem one_tmC (L : List (Int × Int)) : ∀ u ∈ tmC L, u.oneCell' = true := by
  intro u hu
  obtain ⟨x, _, hx⟩ := List.mem_flatMap.1 hu
  simp at hx
  rcases hx with rfl | rfl <;> rfl
theorem tmC_get {L : List (Int × Int)} {k : Nat} {x : Int × Int} (h : L[k]? = some x) : (tmC L)[k * 2]? = some (.int .i64 x.1) ∧ (tmC L)[k * 2 + 1]? = some (.int .i64 x.2) := by
  have hk := (List.getElem?_eq_some_iff.1 h).1
  have e : L.drop k = x :: L.drop (k + 1) := by
    rw [List.drop_eq_getElem_cons hk]
    rw [List.getElem?_eq_getElem hk] at h
    rw [Option.some.inj h]
  have hd : (tmC L).drop (k * 2) = .int .i64 x.1 :: .int .i64 x.2 :: tmC (L.drop (k + 1)) := by rw [tmC_drop, e]; rfl
  constructor
  · have := congrArg (·[0]?) hd
    simpa using this
  · have := congrArg (·[1]?) hd
    simpa using this
theorem Tryd.elemTm : Elem Tryd.prog 111 115 (.agg #[.int .i64 0, .int .i64 0]) 2 16 := ⟨Tryd.underlying111, by kernel_rfl, rfl, by omega⟩
theorem zeroTm : ∀ w, (zeroValue 115).run Tryd.prog w = .ok (.agg #[.int .i64 0, .int .i64 0]) w := fun w => by kernel_rfl

/-- A list of timers of one's own. -/
def TlAt (w : World) (B : Nat) (v : Value) (L : List (Int × Int)) : Prop := w.ownsRow B 115 2 v L.length (tmC L)
theorem TlAt.form {w : World} {B : Nat} {v : Value} {L : List (Int × Int)} (h : TlAt w B v L) (hp : 0 < L.length) :
    ∃ g cap cur, v = .slice (some ⟨g, 0, none⟩) L.length cap ∧ B ≤ g ∧ Blk w g 115 cur ∧ L.length ≤ cap ∧ cap ≤ maxLen ∧ cur.length = cap * 2 ∧ cur.take (L.length * 2) = tmC L := by
  rcases h.2 with ⟨_, h0⟩ | ⟨g, cap, cur, h1, h2, h3, h4, h5, h6, h7⟩
  · omega
  · exact ⟨g, cap, cur.toList, h1, h2, by simpa [Blk] using h3, h4, h5, by simpa using h6, h7⟩
theorem TlAt.mk {w : World} {B g n cap : Nat} {cur : List Value} {L : List (Int × Int)} (hn : n = L.length) (h2 : B ≤ g) (h3 : Blk w g 115 cur) (h4 : n ≤ cap) (h5 : cap ≤ maxLen) (h6 : cur.length = cap * 2) (h7 : cur.take (n * 2) = tmC L) : TlAt w B (.slice (some ⟨g, 0, none⟩) n cap) L := by
  subst hn
  exact ⟨tmC_len L, .inr ⟨g, cap, cur.toArray, rfl, h2, h3, h4, h5, by simpa using h6, by simpa using h7⟩⟩
theorem TlAt.chg {w w' : World} {B : Nat} {v : Value} {L : List (Int × Int)} {X : List Nat} (h : TlAt w B v L) (hc : Chg X w w') (hx : ∀ k, v.ownBlock = some k → k ∉ X) : TlAt w' B v L := own_chg h hc hx
theorem TlAt.keep {w w' : World} {B : Nat} {v : Value} {L : List (Int × Int)} (h : TlAt w B v L) (hb : Ext w w') : TlAt w' B v L := own_ext h hb
theorem TlAt.rd {w : World} {B : Nat} {v : Value} {L : List (Int × Int)} (h : TlAt w B v L) : ∃ A c, v = .slice A L.length c ∧ L.length ≤ c ∧ c ≤ maxLen ∧ Rd w 2 A L.length (tmC L) := own_rd h
theorem Blk.shape {w : World} {g : Nat} {e : TypeId} {cs : List Value} (h : Blk w g e cs) : w.shape? g = some (e, cs.length) := by
  unfold Blk at h
  simp [World.shape?, h]

set_option maxHeartbeats 2000000 in
set_option maxRecDepth 20000 in
/-- One is taken out. -/
theorem tmDelete {w : World} {B : Nat} {v : Value} {L : List (Int × Int)} (h : TlAt w B v L) (i : Nat) (hi : i < L.length) (hb : L.length ≤ 1000000) :
    Calls Tryd.prog 75 #[v, .int .i64 i, .int .i64 ((i : Int) + 1)] w fun e w' => ∃ v', e = .returned v' ∧ TlAt w' B v' (L.take i ++ L.drop (i + 1)) ∧ Chg v.ownBlock.toList w w' ∧ v'.ownBlock = v.ownBlock := by
  obtain ⟨g, cap, cur, rfl, hg, hB, hnc, hcm, hcl, hct⟩ := h.form (by omega)
  obtain ⟨n, hn⟩ : ∃ n, L.length = n := ⟨_, rfl⟩
  rw [hn] at hi hb hnc hct ⊢
  -- the cells that move
  have hmv : (tmC (L.drop (i + 1))).length = (n - (i + 1)) * 2 := by rw [tmC_len, List.length_drop, hn]
  have hti : cur.take (i * 2) = tmC (L.take i) := by
    rw [← tmC_take, ← hct, List.take_take, Nat.min_eq_left (by omega)]
  have hsrc : ∀ j u, (tmC (L.drop (i + 1)))[j]? = some u → w.cell? ⟨g, (i + 1) * 2 + j, none⟩ = some u := fun j u hu => by
    rw [hB.cell]
    rw [← tmC_drop, ← hct, List.getElem?_drop, List.getElem?_take] at hu
    split at hu
    · exact hu
    · cases hu
  have hB' : Blk w.drew g 115 cur := hB
  obtain ⟨A, hA, hsrcA⟩ : ∃ A : Addr, (if cap = i + 1 then (some ⟨g, 0, none⟩ : Option Addr) else some ⟨g, (i + 1) * 2, none⟩) = some A ∧ ∀ j u, (tmC (L.drop (i + 1)))[j]? = some u → w.drew.cell? (A.add j) = some u := by
    by_cases hc : cap = i + 1
    · refine ⟨⟨g, 0, none⟩, by rw [if_pos hc], fun j u hu => ?_⟩
      have := (List.getElem?_eq_some_iff.1 hu).1
      rw [hmv] at this
      omega
    · refine ⟨⟨g, (i + 1) * 2, none⟩, by rw [if_neg hc], fun j u hu => ?_⟩
      rw [Addr.add_lit]
      exact hsrc j u hu
  have hrun := run_roomK Tryd.elemTm w.drew 111 (sLen := i) (sCap := cap) (a := A) (m := n - (i + 1)) (c := cap - (i + 1)) hB' hmv hsrcA (one_tmC _) (by omega) (by rw [hmv]; omega)
  rw [show i + (n - (i + 1)) = n - 1 by omega] at hrun
  obtain ⟨hW1, hc1⟩ := setRow_blk (cs := cur.take (i * 2) ++ tmC (L.drop (i + 1)) ++ cur.drop (i * 2 + (tmC (L.drop (i + 1))).length)) hB'
  obtain ⟨cur1, hcur1⟩ : ∃ c1, cur.take (i * 2) ++ tmC (L.drop (i + 1)) ++ cur.drop (i * 2 + (tmC (L.drop (i + 1))).length) = c1 := ⟨_, rfl⟩
  rw [hcur1] at hrun hW1 hc1
  have hl1 : cur1.length = cap * 2 := by
    rw [← hcur1, List.length_append, List.length_append, List.length_take, List.length_drop, hmv]
    omega
  have ht1 : cur1.take ((n - 1) * 2) = tmC (L.take i ++ L.drop (i + 1)) := by
    rw [← hcur1, List.take_left' (by rw [List.length_append, List.length_take, hmv]; omega), tmC_append, hti]
  obtain ⟨W1, hW1e⟩ : ∃ W1, w.drew.setRow g cur1.toArray = W1 := ⟨_, rfl⟩
  rw [hW1e] at hrun hW1 hc1
  have hclr : (Builtin.clear_ #[111] 0 #[.slice (some ⟨g, (n - 1) * 2, none⟩) (n - (n - 1)) (cap - (n - 1))]).run Tryd.prog W1 = .ok (.tuple #[]) (W1.setRow g (cur1.take ((n - 1) * 2) ++ [Value.int .i64 0, Value.int .i64 0] ++ cur1.drop ((n - 1) * 2 + 2)).toArray) := run_clearK Tryd.elemTm zeroTm W1 0 (o := (n - 1) * 2) (n := n - (n - 1)) (c := cap - (n - 1)) (zs := [.int .i64 0, .int .i64 0]) hW1 (by omega) (by rw [show n - (n - 1) = 1 by omega]; kernel_rfl) (by rw [hl1]; simp; omega) (by simp [Value.oneCell'])
  obtain ⟨hW2, hc2⟩ := setRow_blk (cs := cur1.take ((n - 1) * 2) ++ [.int .i64 0, .int .i64 0] ++ cur1.drop ((n - 1) * 2 + 2)) hW1
  have hl2 : (cur1.take ((n - 1) * 2) ++ [Value.int .i64 0, .int .i64 0] ++ cur1.drop ((n - 1) * 2 + 2)).length = cap * 2 := by
    simp only [List.length_append, List.length_take, List.length_drop, List.length_cons, List.length_nil, hl1]
    omega
  have ht2 : (cur1.take ((n - 1) * 2) ++ [Value.int .i64 0, .int .i64 0] ++ cur1.drop ((n - 1) * 2 + 2)).take ((n - 1) * 2) = tmC (L.take i ++ L.drop (i + 1)) := by
    rw [List.append_assoc, List.take_left' (by rw [List.length_take, hl1]; omega), ht1]
  have hfin : TlAt (W1.setRow g (cur1.take ((n - 1) * 2) ++ [Value.int .i64 0, .int .i64 0] ++ cur1.drop ((n - 1) * 2 + 2)).toArray) B (.slice (some ⟨g, 0, none⟩) (n - 1) cap) (L.take i ++ L.drop (i + 1)) :=
    TlAt.mk (by rw [List.length_append, List.length_take, List.length_drop]; omega) hg hW2 (by omega) hcm hl2 ht2
  have hch : Chg [g] w (W1.setRow g (cur1.take ((n - 1) * 2) ++ [Value.int .i64 0, .int .i64 0] ++ cur1.drop ((n - 1) * 2 + 2)).toArray) := ((Chg.refl [g] w).drew.trans hc1).trans hc2
  obtain ⟨W2, hW2e⟩ : ∃ W2, W1.setRow g (cur1.take ((n - 1) * 2) ++ [Value.int .i64 0, .int .i64 0] ++ cur1.drop ((n - 1) * 2 + 2)).toArray = W2 := ⟨_, rfl⟩
  rw [hW2e] at hfin hch hclr
  have HFIN := Lib.hid hfin
  have HCH := Lib.hid hch
  have HRUN := Lib.hid hrun
  have HCLR := Lib.hid hclr
  have hne : ((i : Int) == (i : Int) + 1) = false := by simp; omega
  have hcn : cap ≠ n - 1 := by omega
  have hic : i ≤ cap := by omega
  have hin1 : i + 1 ≤ n := hi
  have hin2 : (i : Int) + 1 ≤ n := by omega
  have hin3 : (0 : Int) ≤ (i : Int) + 1 := by omega
  have hcm' : cap ≤ 9223372036854775807 := by unfold maxLen at hcm; omega
  clear hW2e hfin hch hrun hclr hW1 hc1 hW2 hc2 hl1 hl2 ht1 ht2 hcur1 hti hmv hsrc hsrcA hB hB' hct hcl h
  go_enter Tryd.func75, Tryd.ntmps75
  go_wp2
  go_region_law (refine step_appR rfl (.tmp 22) (.tmp 25) 111 111 rfl (v := .slice (some ⟨g, 0, none⟩) i cap) (u := .slice (some A) (n - (i + 1)) (cap - (i + 1))) (by simp [Act.eval, Act.put]) (by simp [Act.eval, Act.put]) HRUN.out ?_)
  have hclr := HCLR.out
  go_wp2
  go_ret
  refine ⟨_, rfl, HFIN.out, ?_, rfl⟩
  simpa [Value.ownBlock] using HCH.out
end Go.Proofs.YtnbdmlpnoiljdaaDoor
