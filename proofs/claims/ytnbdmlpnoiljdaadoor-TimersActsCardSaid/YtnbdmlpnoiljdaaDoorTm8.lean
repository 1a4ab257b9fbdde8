/- Timers: Tick. -/
import Derived.Test.YtnbdmlpnoiljdaaDoorTm6
import Derived.Test.YtnbdmlpnoiljdaaDoorInts
namespace Go.Proofs.YtnbdmlpnoiljdaaDoor
open Go Go.RowKit

theorem rows_apart {w : World} {b b' : Nat} {e e' : TypeId} {s s' n n' : Nat} {v u : Value} {xs ys : List Value} (h : w.ownsRow b e s v n xs) (h' : w.ownsRow b' e' s' u n' ys) (he : e ≠ e') : ∀ k, v.ownBlock = some k → u.ownBlock ≠ some k := by
  intro k hk hk'
  rcases h.2 with ⟨rfl, _⟩ | ⟨g, cap, cur, rfl, _, h3, _⟩
  · simp [Value.ownBlock] at hk
  rcases h'.2 with ⟨rfl, _⟩ | ⟨g', cap', cur', rfl, _, h3', _⟩
  · simp [Value.ownBlock] at hk'
  simp [Value.ownBlock] at hk hk'
  subst hk
  subst hk'
  rw [h3] at h3'
  simp at h3'
  exact he h3'.2
theorem row_apart {w : World} {b : Nat} {e e' : TypeId} {s n tb : Nat} {v : Value} {xs cs : List Value} (h : w.ownsRow b e s v n xs) (hb : Blk w tb e' cs) (he : e' ≠ e) : v.ownBlock ≠ some tb := by
  intro hk
  rcases h.2 with ⟨rfl, _⟩ | ⟨g, cap, cur, rfl, _, h3, _⟩
  · simp [Value.ownBlock] at hk
  simp [Value.ownBlock] at hk
  subst hk
  unfold Blk at hb
  rw [hb] at h3
  simp at h3
  exact he h3.2
theorem row_lt {w : World} {b : Nat} {e : TypeId} {s n : Nat} {v : Value} {xs : List Value} (h : w.ownsRow b e s v n xs) {k : Nat} (hk : v.ownBlock = some k) : b ≤ k ∧ k < w.heap.size := by
  rcases h.2 with ⟨rfl, _⟩ | ⟨g, cap, cur, rfl, h2, h3, _⟩
  · simp [Value.ownBlock] at hk
  · simp [Value.ownBlock] at hk
    subst hk
    exact ⟨h2, (Array.getElem?_eq_some_iff.1 h3).1⟩
theorem tmDelete0 {w : World} {B : Nat} {v : Value} {L : List (Int × Int)} (h : TlAt w B v L) (hi : 0 < L.length) (hb : L.length ≤ 1000000) :
    Calls Tryd.prog 75 #[v, .int .i64 0, .int .i64 1] w fun e w' => ∃ v', e = .returned v' ∧ TlAt w' B v' (L.drop 1) ∧ Chg v.ownBlock.toList w w' ∧ v'.ownBlock = v.ownBlock := by
  have := tmDelete h 0 hi hb
  simpa using this

set_option maxHeartbeats 1000000 in
theorem tmTickRange {w : World} {B tb : Nat} {v : Value} {now : Int} {L : List (Int × Int)} {E : Nat → Addr} (h : TmAt w B tb v now L) (n : Int) (hE : ErrC [0, 1] w E) (h0 : 0 ≤ now) (h9 : now ≤ 1099511627776) (hbad : n < 0 ∨ 1099511627776 - now < n) :
    Calls Tryd.prog 41 #[.pointer (some ⟨tb, 0, none⟩), .int .i64 n] w fun e w' => e = .returned (.tuple #[.slice none 0 0, errV E 0]) ∧ Ext w w' := by
  have e0 : w.cell? ⟨tb, 0, none⟩ = some (.int .i64 now) := h.blk.cell 0
  have g0 := hE.cell (i := 0) (by decide) rfl
  unfold errV at *
  clear h hE
  by_cases hlt : n < 0
  · go_enter Tryd.func41, Tryd.ntmps41
    go_wp2
    go_quiet (fail)
    go_wp2
    go_ret2
    exact ⟨rfl, Ext.drawn _ _⟩
  · have hgt : 1099511627776 - now < n := by omega
    clear hbad
    go_enter Tryd.func41, Tryd.ntmps41
    go_wp2
    go_quiet (fail)
    go_wp2
    go_ret2
    exact ⟨rfl, Ext.drawn _ _⟩

def lenV : Value → Nat
  | .slice _ n _ => n
  | _ => 0

set_option maxHeartbeats 4000000 in
set_option maxRecDepth 20000 in
theorem tmTickOk {w : World} {B tb : Nat} {v : Value} {now : Int} {L : List (Int × Int)} (h : TmAt w B tb v now L) (n T : Int) (h0 : 0 ≤ now) (h9 : now ≤ 1099511627776) (hn0 : 0 ≤ n) (hn9 : n ≤ 1099511627776 - now) (hT : now + n = T) :
    Calls Tryd.prog 41 #[.pointer (some ⟨tb, 0, none⟩), .int .i64 n] w fun e w' => ∃ A c D R, e = .returned (.tuple #[.slice A D.length c, .nilIface]) ∧ L = D ++ R ∧ (∀ y ∈ D, y.1 ≤ T) ∧ (∀ x r, R = x :: r → T < x.1) ∧
      w'.ownsRow w.heap.size 3 1 (.slice A D.length c) D.length (intsV (D.map (·.2))) ∧ TmTurned w w' B tb v T R := by
  have e0 : w.cell? ⟨tb, 0, none⟩ = some (.int .i64 now) := h.blk.cell 0
  have f0 := h.blk.frozen 0
  have hc1 : Chg [tb] w (w.setCell ⟨tb, 0, none⟩ (.int .i64 T)) := (Chg.refl _ _).setCell (by simp) _
  have hap : v.ownBlock ≠ some tb := h.own.apart h.blk (by decide +kernel)
  have hT1 : TmAt (w.setCell ⟨tb, 0, none⟩ (.int .i64 T)) B tb v T L := ⟨by simpa using h.blk.set_ 0 (.int .i64 T), h.own.chg hc1 (fun j hj hm => by simp at hm; subst hm; exact hap hj), h.low, h.srt, h.len, h.keys⟩
  have HT1 := Lib.hid hT1
  have HC1 := Lib.hid hc1
  have hL16 := h.len
  have hmx : (IntKind.i64.wrap (now + n)) = T := by rw [hT]; exact wrap_id (by omega) (by omega)
  clear h hap hT1 hc1
  go_enter Tryd.func41, Tryd.ntmps41
  go_wp2
  have hsz1 : w.heap.size ≤ (w.setCell ⟨tb, 0, none⟩ (.int .i64 T)).heap.size := HC1.out.size
  generalize w.setCell ⟨tb, 0, none⟩ (.int .i64 T) = w1 at *
  clear e0 f0 hmx hT
  go_loopw [6] (fun s6 wr => ∃ (k : Nat) (A : Option Addr) (c : Nat) (u : Value), s6 = .slice A k c ∧ k ≤ L.length ∧ (∀ y ∈ L.take k, y.1 ≤ T) ∧ wr.ownsRow w.heap.size 3 1 (.slice A k c) k (intsV ((L.take k).map (·.2))) ∧ TmAt wr B tb u T (L.drop k) ∧ Chg (tb :: v.ownBlock.toList) w wr ∧ (∀ j, u.ownBlock = some j → v.ownBlock = some j ∨ w.heap.size ≤ j)) (fun s6 _ => L.length - lenV s6)
  case atStart => exact ⟨0, none, 0, v, rfl, Nat.zero_le _, by simp, World.ownsRow_nil _ _ _ _, HT1.out, HC1.out.mono (by simp), fun j hj => .inl hj⟩
  case round =>
    obtain ⟨k, A, c, u, rfl, hkL, hdue, hown, hTr, hcr, hur⟩ := hrel
    have HDUE := Lib.hid hdue
    have HOWN := Lib.hid hown
    have HTR := Lib.hid hTr
    have HCR := Lib.hid hcr
    have HUR := Lib.hid hur
    have e0 : wr.cell? ⟨tb, 0, none⟩ = some (.int .i64 T) := hTr.blk.cell 0
    have htb : tb < wr.heap.size := hTr.blk.lt
    cases hR : L.drop k with
    | nil =>
      rw [hR] at hTr
      have HR := Lib.hid hR
      obtain ⟨Au, cu, rfl, _, _, _⟩ := hTr.own.rd
      have e1 : wr.cell? ⟨tb, 1, none⟩ = some (.slice Au 0 cu) := hTr.blk.cell 1
      clear hdue hown hTr hcr hur hR
      have hd : decide ((0 : Nat) < 0) = false := by decide
      go_wp2
      go_quiet (fail)
      go_wp2
      go_ret2
      have hkl : (L.take k).length = k := by simp; omega
      refine ⟨A, c, L.take k, L.drop k, by rw [hkl]; first | done | rfl, (List.take_append_drop k L).symm, HDUE.out, ?_, by rw [hkl]; exact own_ext HOWN.out (Ext.drawn _ _), _, HTR.out.keep (Ext.drawn _ _), HCR.out.trans (.of_ext (Ext.drawn _ _)), HUR.out⟩
      intro y r' hy
      rw [HR.out] at hy
      cases hy
    | cons x r =>
      rw [hR] at hTr
      have HR := Lib.hid hR
      have hlr : r.length + 1 + k = L.length := by have := congrArg List.length hR; simp at this; omega
      obtain ⟨g, cap, rfl, hnc, hcm, z0, z1⟩ := hTr.cells (k := 0) (x := x) rfl
      have z0' : wr.cell? ⟨g, 0, none⟩ = some (.int .i64 x.1) := z0
      have z1' : wr.cell? ⟨g, 1, none⟩ = some (.int .i64 x.2) := z1
      have e1 : wr.cell? ⟨tb, 1, none⟩ = some (.slice (some ⟨g, 0, none⟩) (r.length + 1) cap) := hTr.blk.cell 1
      obtain ⟨m, hm⟩ : ∃ m, r.length + 1 = m := ⟨_, rfl⟩
      rw [hm] at e1 hlr
      have HM := Lib.hid hm
      have hp : 0 < m := by omega
      have hd : decide (0 < m) = true := decide_eq_true hp
      have hgl := (hTr.own.lt (k := g) rfl).2
      have hTm : TmAt wr B tb (.slice (some ⟨g, 0, none⟩) m cap) T (x :: r) := by rw [← hm]; exact hTr
      have HTM := Lib.hid hTm
      clear hTm
      clear hdue hown hTr hcr hur hR z0 z1 hm hnc hcm
      by_cases hx : x.1 ≤ T
      · have hdx : decide (x.1 ≤ T) = true := decide_eq_true hx
        go_wp2
        go_quiet (fail)
        have hxq : Ext wr (wr.drewN nq) := Ext.drawn _ _
        have hTq := HTM.out.keep hxq
        have hownq := own_ext HOWN.out hxq
        have HCQ := Lib.hid (HCR.out.trans (.of_ext hxq))
        have hszq : w.heap.size ≤ (wr.drewN nq).heap.size := Nat.le_trans HCR.out.size hxq.size
        have y1 : (wr.drewN nq).cell? ⟨tb, 1, none⟩ = some (.slice (some ⟨g, 0, none⟩) m cap) := hTq.blk.cell 1
        have y0 : (wr.drewN nq).cell? ⟨g, 1, none⟩ = some (.int .i64 x.2) := (hxq.cell (p := ⟨g, 1, none⟩) hgl).trans z1'
        have hap1 : tb ∉ (Value.slice A k c).ownBlock.toList := fun hj => row_apart hownq hTq.blk (by decide +kernel) (by simpa using hj)
        have hap2 : ∀ j, (Value.slice (some ⟨g, 0, none⟩) m cap).ownBlock = some j → j ∉ (Value.slice A k c).ownBlock.toList := fun j hj hm => rows_apart hTq.own hownq (by decide +kernel) j hj (by simpa using hm)
        have hap0 : tb ∉ (Value.slice (some ⟨g, 0, none⟩) m cap).ownBlock.toList := fun hj => hTq.own.apart hTq.blk (by decide +kernel) (by simpa using hj)
        generalize wr.drewN nq = wq at *
        clear e0 e1 z0' z1' hxq
        have HTQ := Lib.hid hTq
        have HOQ := Lib.hid hownq
        clear hTq hownq
        go_wp2_with (first
          | (go_at_call 75; go_loud (refine (tmDelete0 HT2.out.own (by simp) (by have := HM.out; simp; omega)).mono ?_); rintro e w3 ⟨v3, rfl, hd3, hc3, hv3⟩; obtain ⟨A3, n3, c3, rfl⟩ := hd3.sh; have y3 : w3.cell? ⟨tb, 1, none⟩ = some (.slice (some ⟨g, 0, none⟩) m cap) := hc3.cell y2 hap0; have f3 := (HT2.out.blk.chg hc3 hap0).frozen 1)
          | (at_builtin; go_loud (refine wpList_app2 Tryd.elemI rfl (.tmp 47) (.tmp 55) rfl (v := .slice A k c) rfl (own_alloc HOQ.out _) (by simp; omega) rfl (rd_one wq (.int .i64 x.2) 3) (one_one rfl) (by omega) (by unfold maxLen; omega) ?_); intro v2 w2 hown2 hg2 _ hat2; obtain ⟨A2, c2, rfl, _, _, _⟩ := own_rd hown2; have hc2 : Chg (Value.slice A k c).ownBlock.toList wq w2 := (Chg.of_ext (Ext.new1 _ _)).trans hg2.chg; have HT2 := Lib.hid (HTQ.out.chg hc2 hap1 hap2); have y2 : w2.cell? ⟨tb, 1, none⟩ = some (.slice (some ⟨g, 0, none⟩) m cap) := HT2.out.blk.cell 1; have HO2 := Lib.hid hown2; clear hown2 hg2 hat2))
        go_roundw
        case rel =>
          have hk1 : L[k]? = some x := by
            have := congrArg (·[0]?) HR.out
            simpa using this
          have hdr : L.drop (k + 1) = r := by
            have := congrArg (List.drop 1) HR.out
            simpa [List.drop_drop] using this
          have htk : L.take (k + 1) = L.take k ++ [x] := by rw [List.take_add_one, hk1]; rfl
          have hcs : Chg [tb] w3 (w3.setCell ⟨tb, 1, none⟩ (.slice A3 n3 c3)) := (Chg.refl _ _).setCell (by simp) _
          have hap3 : ∀ j, (Value.slice A2 (k + 1) c2).ownBlock = some j → j ∉ (Value.slice (some ⟨g, 0, none⟩) m cap).ownBlock.toList := fun j hj hm => rows_apart HO2.out HT2.out.own (by decide +kernel) j hj (by simpa using hm)
          have hap4 : (Value.slice A2 (k + 1) c2).ownBlock ≠ some tb := row_apart HO2.out HT2.out.blk (by decide +kernel)
          have ho3 := own_chg (own_chg HO2.out hc3 hap3) hcs (fun j hj hm => by simp at hm; subst hm; exact hap4 hj)
          have hap5 : (Value.slice A3 n3 c3).ownBlock ≠ some tb := fun hj => hap0 (by rw [hv3] at hj; simpa using hj)
          refine ⟨k + 1, A2, c2, .slice A3 n3 c3, rfl, by omega, ?_, ?_, ⟨by simpa using (HT2.out.blk.chg hc3 hap0).set_ 1 (.slice A3 n3 c3), ?_, HTQ.out.low, ?_, ?_, ?_⟩, ((HCQ.out.more hc2 (fun y hy => .inr (row_lt HOQ.out (by simpa using hy)).1)).more hc3 (fun y hy => ?_)).trans (hcs.mono (by simp)), fun j hj => HUR.out j (by rw [hv3] at hj; simpa [Value.ownBlock] using hj)⟩
          · rw [htk]
            intro y hy
            rcases List.mem_append.1 hy with hy | hy
            · exact HDUE.out y hy
            · simp at hy; subst hy; exact hx
          · rw [htk, List.map_append]
            simpa [intsV] using ho3
          · rw [hdr]
            exact hd3.chg hcs (fun j hj hm => by simp at hm; subst hm; exact hap5 hj)
          · rw [hdr]; exact HTQ.out.srt.2
          · rw [hdr]; have := HTQ.out.len; simp at this; omega
          · rw [hdr]; have := HTQ.out.keys; simp at this; exact this.2
          · rcases HUR.out y (by simp [Value.ownBlock] at hy ⊢; exact hy.symm) with h | h
            · exact .inl (List.mem_cons_of_mem _ (by simpa using h))
            · exact .inr h
        case measure => simp [lenV]; omega
      · have hdx : decide (x.1 ≤ T) = false := decide_eq_false hx
        go_wp2
        go_quiet (fail)
        go_wp2
        go_ret2
        have hkl : (L.take k).length = k := by simp; omega
        refine ⟨A, c, L.take k, L.drop k, by rw [hkl]; first | done | rfl, (List.take_append_drop k L).symm, HDUE.out, ?_, by rw [hkl]; exact own_ext HOWN.out (Ext.drawn _ _), _, HTR.out.keep (Ext.drawn _ _), HCR.out.trans (.of_ext (Ext.drawn _ _)), HUR.out⟩
        intro y r' hy
        rw [HR.out] at hy
        cases hy
        exact hx
end Go.Proofs.YtnbdmlpnoiljdaaDoor
