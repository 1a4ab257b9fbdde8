/- Timers: slices.Insert at their list. -/
import Derived.Test.YtnbdmlpnoiljdaaDoorTm1
namespace Go.Proofs.YtnbdmlpnoiljdaaDoor
open Go Go.RowKit

theorem xC (x : Int × Int) : tmC [x] = [.int .i64 x.1, .int .i64 x.2] := rfl

set_option maxHeartbeats 2000000 in
set_option maxRecDepth 20000 in
/-- Behind all. -/
theorem tmInsertEnd {w : World} {B : Nat} {v : Value} {L : List (Int × Int)} (h : TlAt w B v L) (x : Int × Int) (vb : Nat) (hvb : Blk w vb 115 [.int .i64 x.1, .int .i64 x.2]) (hb : L.length ≤ 1000) (hBw : B ≤ w.heap.size) :
    Calls Tryd.prog 74 #[v, .int .i64 L.length, .slice (some ⟨vb, 0, none⟩) 1 1] w fun e w' => ∃ v', e = .returned v' ∧ TlAt w' B v' (L ++ [x]) ∧ Chg v.ownBlock.toList w w' ∧ (v'.ownBlock = v.ownBlock ∨ v'.ownBlock = some w.heap.size) := by
  obtain ⟨A, c, hv, hc, hm, _⟩ := h.rd
  have hrd : Rd w 2 (some ⟨vb, 0, none⟩) 1 [.int .i64 x.1, .int .i64 x.2] := hvb.rd (n := 1) (size := 2) 0 (by simp)
  have HH := Lib.hid h
  have HRD := Lib.hid hrd
  have hA : A = none → c = 0 ∧ L.length = 0 := fun hA => by
    subst hA
    rcases h.2 with ⟨h1, h2⟩ | ⟨g, cap, cur, h1, _⟩
    · rw [hv] at h1; injection h1 with _ _ h3; exact ⟨h3, h2⟩
    · rw [hv] at h1; cases h1
  obtain ⟨n, hn⟩ : ∃ n, L.length = n := ⟨_, rfl⟩
  have hfin : ∀ v' w', w'.ownsRow B 115 2 v' (n + 1) (tmC L ++ [.int .i64 x.1, .int .i64 x.2]) → Grew B w w' v → (v'.ownBlock = v.ownBlock ∨ v'.ownBlock = some w.heap.size) → TlAt w' B v' (L ++ [x]) ∧ Chg v.ownBlock.toList w w' ∧ (v'.ownBlock = v.ownBlock ∨ v'.ownBlock = some w.heap.size) := fun v' w' h1 h2 h3 => by
    refine ⟨?_, h2.chg, h3⟩
    unfold TlAt
    rw [List.length_append, hn, tmC_append]
    exact h1
  have HF := Lib.hid hfin
  rw [hn] at hc hb hA hv ⊢
  unfold TlAt at HH
  rw [hn] at HH
  subst hv
  clear h hrd hvb hfin hn
  unfold maxLen at hm
  cases A with
  | none =>
    obtain ⟨rfl, rfl⟩ := hA rfl
    go_enter Tryd.func74, Tryd.ntmps74
    go_wp2_with (at_builtin; go_loud (refine wpList_app2 (base := B) Tryd.elemTm rfl (.tmp 23) (.tmp 24) rfl (v := .slice none 0 0) (n := 0) rfl HH.out hBw rfl HRD.out (by simp [Value.oneCell']) (by omega) (by unfold maxLen; omega) ?_); intro v4 w4 hown4 hg4 _ hat4; have H4 := Lib.hid (HF.out v4 w4 hown4 hg4 hat4); clear hown4 hg4 hat4)
    go_ret
    exact ⟨_, rfl, H4.out⟩
  | some a =>
    go_enter Tryd.func74, Tryd.ntmps74
    go_wp2_with (at_builtin; go_loud (refine wpList_app2 (base := B) Tryd.elemTm rfl (.tmp 23) (.tmp 24) rfl (v := .slice (some a) n c) (n := n) rfl HH.out hBw rfl HRD.out (by simp [Value.oneCell']) (by omega) (by unfold maxLen; omega) ?_); intro v4 w4 hown4 hg4 _ hat4; have H4 := Lib.hid (HF.out v4 w4 hown4 hg4 hat4); clear hown4 hg4 hat4)
    all_goals go_ret
    all_goals exact ⟨_, rfl, H4.out⟩

theorem ovl {w : World} {vb g o : Nat} {cs cur : List Value} (hvb : Blk w vb 115 cs) (hB : Blk w g 115 cur) (hne : vb ≠ g) (hc : 0 < cur.length) (la ca lb cb : Nat) :
    (callFunc 87 #[.slice (some ⟨vb, 0, none⟩) la ca, .slice (some ⟨g, o, none⟩) lb cb]).run Tryd.prog w = .ok (.value (.bool false)) w := by
  rw [run_callFunc_extern Tryd.func87 (by kernel_rfl) (by kernel_rfl) (by kernel_rfl) (e := Extern.SlicesOverlaps.overlaps #[111, 111] #[4]) (by kernel_rfl),
    Lib.run_overlaps_apart w 111 4 115 Tryd.underlying111 2 (fun w => by kernel_rfl) ⟨vb, 0, none⟩ ⟨g, o, none⟩ la ca lb cb hne _ _ _ _ hvb.shape hB.shape (by omega) (hvb.frozen 0) (hvb.frozen _)]
  rfl

set_option maxHeartbeats 2000000 in
set_option maxRecDepth 20000 in
/-- Among them, where there is room. -/
theorem tmInsertRoom {w : World} {B g n cap : Nat} {cur : List Value} {L : List (Int × Int)} (x : Int × Int) (i vb : Nat) (hi : i < n) (hroom : n + 1 ≤ cap) (hg : B ≤ g) (hB : Blk w g 115 cur) (hcm : cap ≤ maxLen) (hcl : cur.length = cap * 2) (hct : cur.take (n * 2) = tmC L) (hnL : L.length = n)
    (hvb : Blk w vb 115 [.int .i64 x.1, .int .i64 x.2]) (hne : vb ≠ g) (hb : n ≤ 1000) :
    Calls Tryd.prog 74 #[.slice (some ⟨g, 0, none⟩) n cap, .int .i64 i, .slice (some ⟨vb, 0, none⟩) 1 1] w fun e w' => e = .returned (.slice (some ⟨g, 0, none⟩) (n + 1) cap) ∧ TlAt w' B (.slice (some ⟨g, 0, none⟩) (n + 1) cap) (L.take i ++ x :: L.drop i) ∧ Chg [g] w w' := by
  have hmv : (tmC (L.drop i)).length = (n - i) * 2 := by rw [tmC_len, List.length_drop, hnL]
  have hti : cur.take (i * 2) = tmC (L.take i) := by rw [← tmC_take, ← hct, List.take_take, Nat.min_eq_left (by omega)]
  have hsrc : ∀ j u, (tmC (L.drop i))[j]? = some u → w.drew.cell? ((⟨g, i * 2, none⟩ : Addr).add j) = some u := fun j u hu => by
    rw [Addr.add_lit]
    show w.cell? _ = _
    rw [hB.cell]
    rw [← tmC_drop, ← hct, List.getElem?_drop, List.getElem?_take] at hu
    split at hu
    · exact hu
    · cases hu
  have hB' : Blk w.drew g 115 cur := hB
  have hmin : Nat.min (n + 1 - i) (n + 1 - (i + 1)) = n - i := by simp only [Nat.min_def]; split <;> omega
  have hrun1 := run_copyK Tryd.elemTm w.drew 3 (o := (i + 1) * 2) (dLen := n + 1 - (i + 1)) (dCap := cap - (i + 1)) (a := ⟨g, i * 2, none⟩) (sLen := n + 1 - i) (sCap := cap - i) hB' (by rw [hmv, hmin]) hsrc (by rw [hmv]; omega) (one_tmC _)
  rw [hmin] at hrun1
  obtain ⟨hW1, hc1⟩ := setRow_blk (cs := cur.take ((i + 1) * 2) ++ tmC (L.drop i) ++ cur.drop ((i + 1) * 2 + (tmC (L.drop i)).length)) hB'
  obtain ⟨cur1, hcur1⟩ : ∃ c1, cur.take ((i + 1) * 2) ++ tmC (L.drop i) ++ cur.drop ((i + 1) * 2 + (tmC (L.drop i)).length) = c1 := ⟨_, rfl⟩
  rw [hcur1] at hrun1 hW1 hc1
  have hl1 : cur1.length = cap * 2 := by
    rw [← hcur1, List.length_append, List.length_append, List.length_take, List.length_drop, hmv]; omega
  have ht1 : cur1.take (i * 2) = tmC (L.take i) := by
    rw [← hcur1, List.append_assoc, List.take_append_of_le_length (by rw [List.length_take]; omega), List.take_take, Nat.min_eq_left (by omega), hti]
  have hd1 : cur1.drop ((i + 1) * 2) = tmC (L.drop i) ++ cur.drop ((i + 1) * 2 + (tmC (L.drop i)).length) := by
    rw [← hcur1, List.append_assoc, List.drop_left' (by rw [List.length_take]; omega)]
  obtain ⟨W1, hW1e⟩ : ∃ W1, w.drew.setRow g cur1.toArray = W1 := ⟨_, rfl⟩
  rw [hW1e] at hrun1 hW1 hc1
  have hvb1 : Blk W1 vb 115 [.int .i64 x.1, .int .i64 x.2] := Blk.chg (w := w.drew) hvb hc1 (by simpa using hne)
  have hmin2 : Nat.min 1 (n + 1 - i) = 1 := by simp only [Nat.min_def]; split <;> omega
  have hrun2 := run_copyK Tryd.elemTm W1 3 (o := i * 2) (dLen := n + 1 - i) (dCap := cap - i) (a := ⟨vb, 0, none⟩) (sLen := 1) (sCap := 1) (cs := [.int .i64 x.1, .int .i64 x.2]) hW1 (by rw [hmin2]; rfl)
    (fun j u hu => by rw [Addr.add_lit, Nat.zero_add, hvb1.cell]; exact hu) (by rw [hl1]; simp; omega) (by simp [Value.oneCell'])
  rw [hmin2] at hrun2
  obtain ⟨hW2, hc2⟩ := setRow_blk (cs := cur1.take (i * 2) ++ [Value.int .i64 x.1, .int .i64 x.2] ++ cur1.drop (i * 2 + 2)) hW1
  have hcur2 : cur1.take (i * 2) ++ [Value.int .i64 x.1, .int .i64 x.2] ++ cur1.drop (i * 2 + 2) = tmC (L.take i ++ x :: L.drop i) ++ cur.drop ((i + 1) * 2 + (tmC (L.drop i)).length) := by
    rw [show i * 2 + 2 = (i + 1) * 2 by omega, hd1, ht1, tmC_append]
    show _ = tmC (L.take i) ++ tmC ([x] ++ L.drop i) ++ _
    rw [tmC_append, xC]
    simp
  have hlx : (L.take i ++ x :: L.drop i).length = n + 1 := by
    rw [List.length_append, List.length_cons, List.length_take, List.length_drop]; omega
  have hfin : TlAt (W1.setRow g (cur1.take (i * 2) ++ [Value.int .i64 x.1, .int .i64 x.2] ++ cur1.drop (i * 2 + 2)).toArray) B (.slice (some ⟨g, 0, none⟩) (n + 1) cap) (L.take i ++ x :: L.drop i) :=
    TlAt.mk hlx.symm hg hW2 hroom hcm (by rw [hcur2, List.length_append, tmC_len, hlx, List.length_drop, hmv, hcl]; omega) (by rw [hcur2, List.take_left' (by rw [tmC_len, hlx])])
  have hch : Chg [g] w (W1.setRow g (cur1.take (i * 2) ++ [Value.int .i64 x.1, .int .i64 x.2] ++ cur1.drop (i * 2 + 2)).toArray) := ((Chg.refl [g] w).drew.trans hc1).trans hc2
  obtain ⟨W2, hW2e⟩ : ∃ W2, W1.setRow g (cur1.take (i * 2) ++ [Value.int .i64 x.1, .int .i64 x.2] ++ cur1.drop (i * 2 + 2)).toArray = W2 := ⟨_, rfl⟩
  have hrun2' : (Builtin.copy_ #[111, 111] 3 #[.slice (some ⟨g, i * 2, none⟩) (n + 1 - i) (cap - i), .slice (some ⟨vb, 0, none⟩) 1 1]).run Tryd.prog W1 = .ok (goInt 1) W2 := by rw [← hW2e]; exact hrun2
  rw [hW2e] at hfin hch
  have hov := fun lb cb => ovl (o := (i + 1) * 2) hvb hB hne (by omega) 1 1 lb cb
  have HFIN := Lib.hid hfin
  have HCH := Lib.hid hch
  have HR1 := Lib.hid hrun1
  have HR2 := Lib.hid hrun2'
  have hcm' : cap ≤ 9223372036854775807 := by unfold maxLen at hcm; omega
  have hin : ((i : Int) == (n : Int)) = false := by simp; omega
  have hc4 : ¬ cap = i := by omega
  have hc5 : ¬ cap = i + 1 := by omega
  have hwr : IntKind.i64.wrap ((i : Int) + 1) = (i : Int) + 1 := by simp [IntKind.wrap, IntKind.bits, IntKind.signed]; omega
  have hi1 : (0 : Int) ≤ (i : Int) + 1 := by omega
  have hi2 : (i : Int) + 1 ≤ (n : Int) + 1 := by omega
  have hi3 : i ≤ cap := by omega
  have hi4 : (i : Int) ≤ (n : Int) + 1 := by omega
  clear hW2e hrun2' hfin hch hrun1 hrun2 hW1 hW2 hc1 hc2 hcur1 hcur2 hl1 ht1 hd1 hlx hvb hvb1 hB hB' hsrc hct hcl hti hmv hmin hmin2
  go_enter Tryd.func74, Tryd.ntmps74
  go_wp2_with (simp only [hov])
  go_region_law (refine step_copyR rfl (.tmp 73) (.tmp 76) 111 111 rfl (v := .slice (some ⟨g, (i + 1) * 2, none⟩) (n + 1 - (i + 1)) (cap - (i + 1))) (u := .slice (some ⟨g, i * 2, none⟩) (n + 1 - i) (cap - i)) (by simp [Act.eval, Act.put]) (by simp [Act.eval, Act.put]) HR1.out ?_)
  have hr2 := HR2.out
  go_wp2
  go_ret
  exact ⟨rfl, HFIN.out, HCH.out⟩
end Go.Proofs.YtnbdmlpnoiljdaaDoor
