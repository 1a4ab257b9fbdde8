/- layer 5: IacParts walked. -/
import Derived.Test.YtbipkbpcjkgohaaIac10
namespace Go.Proofs.Ytbipkbpcjkgohaa
open Go Go.RowKit

/-- As Gath, beside other blocks Z that turn. -/
structure GathZ (base : Nat) (w : World) (p : Nat) (m : Mach) (bv v : Value) (cs : List Value) (ts : List Tok) (Z : List Nat) : Prop where
  mach : MachAt base w p m bv
  own : w.ownsRow base 35 5 v ts.length cs
  toks : TokL w (p :: bv.ownBlock.toList ++ (v.ownBlock.toList ++ Z)) ts cs
  ne : v.ownBlock ≠ some p
  apart : ∀ k, v.ownBlock = some k → bv.ownBlock ≠ some k
  zp : p ∉ Z
  zb : ∀ k, bv.ownBlock = some k → k ∉ Z
  zv : ∀ k, v.ownBlock = some k → k ∉ Z
  zl : ∀ z ∈ Z, z < w.heap.size
section
variable {base : Nat} {w w' : World} {p : Nat} {m : Mach} {bv v : Value} {cs : List Value} {ts : List Tok} {Z : List Nat}
theorem GathZ.keep (h : GathZ base w p m bv v cs ts Z) (hb : Ext w w') : GathZ base w' p m bv v cs ts Z :=
  ⟨h.mach.keep hb, own_ext h.own hb, h.toks.step (.of_ext hb (X := [])) (by simp) (fun x hx => .inl hx), h.ne, h.apart, h.zp, h.zb, h.zv, fun z hz => Nat.lt_of_lt_of_le (h.zl z hz) hb.size⟩
theorem GathZ.fed {tb bv' : Value} {c : UInt8} (h : GathZ base w p m bv v cs ts Z) (hf : Fed base w w' p m bv c tb bv') : GathZ base w' p (feed m c).1 bv' v cs ts Z := by
  have hv : ∀ k, v.ownBlock = some k → k ∉ p :: bv.ownBlock.toList := fun k hk => by
    simp only [List.mem_cons, Option.mem_toList]
    rintro (e | e)
    · subst e; exact h.ne hk
    · exact h.apart k hk e
  have hvl := fun k hk => (h.own.lt k hk).2
  refine ⟨hf.mach, own_chg h.own hf.chg hv, h.toks.step hf.chg (fun y hy => List.mem_append_left _ hy) (fun x hx => ?_), h.ne, fun k hk e => ?_, h.zp, fun k hk hz => ?_, h.zv, fun z hz => Nat.lt_of_lt_of_le (h.zl z hz) hf.chg.size⟩
  · simp only [List.cons_append, List.mem_cons, List.mem_append, Option.mem_toList] at hx ⊢
    rcases hx with hx | hx | hx
    · exact .inl (.inl hx)
    · rcases hf.own with ho | ho | ⟨k, ho, hl⟩
      · rw [ho] at hx; cases hx
      · rw [ho] at hx; exact .inl (.inr (.inl hx))
      · rw [ho] at hx; cases hx; exact .inr hl
    · exact .inl (.inr (.inr hx))
  · rcases hf.own with ho | ho | ⟨j, ho, hl⟩
    · rw [ho] at e; cases e
    · rw [ho] at e; exact h.apart k hk e
    · rw [ho] at e; cases e; have := hvl _ hk; omega
  · rcases hf.own with ho | ho | ⟨j, ho, hl⟩
    · rw [ho] at hk; cases hk
    · rw [ho] at hk; exact h.zb k hk hz
    · rw [ho] at hk; cases hk; have := h.zl _ hz; omega
theorem GathZ.app {v' b : Value} {t : Tok} (h : GathZ base w p m bv v cs ts Z)
    (hown : w'.ownsRow base 35 5 v' (ts.length + 1) (cs ++ [.int .i64 t.kind, .int .i64 t.code, .int .i64 t.opt, b, .bool t.cut])) (hc : Chg v.ownBlock.toList w w') (ho : v'.ownBlock = v.ownBlock ∨ ∃ k, v'.ownBlock = some k ∧ w.heap.size ≤ k)
    (hb : RdX w (p :: bv.ownBlock.toList ++ (v.ownBlock.toList ++ Z)) b t.body) : GathZ base w' p m bv v' (cs ++ [.int .i64 t.kind, .int .i64 t.code, .int .i64 t.opt, b, .bool t.cut]) (ts ++ [t]) Z := by
  have hpl := h.mach.plt
  have hy : ∀ y ∈ v.ownBlock.toList, y ∈ p :: bv.ownBlock.toList ++ (v.ownBlock.toList ++ Z) := fun y hy => List.mem_append_right _ (List.mem_append_left _ hy)
  have hx : ∀ x ∈ p :: bv.ownBlock.toList ++ (v'.ownBlock.toList ++ Z), x ∈ p :: bv.ownBlock.toList ++ (v.ownBlock.toList ++ Z) ∨ w.heap.size ≤ x := fun x hx => by
    simp only [List.cons_append, List.mem_cons, List.mem_append, Option.mem_toList] at hx ⊢
    rcases hx with hx | hx | hx | hx
    · exact .inl (.inl hx)
    · exact .inl (.inr (.inl hx))
    · rcases ho with ho | ⟨k, ho, hl⟩
      · rw [ho] at hx; exact .inl (.inr (.inr (.inl hx)))
      · rw [ho] at hx; cases hx; exact .inr hl
    · exact .inl (.inr (.inr (.inr hx)))
  refine ⟨h.mach.chg hc (fun hm => h.ne (by simpa using hm)) (fun k hk hm => h.apart k (by simpa using hm) hk), by simpa using hown, TokL.snoc (hb.step hc hy hx) (h.toks.step hc hy hx), ?_, ?_, h.zp, h.zb, ?_, fun z hz => Nat.lt_of_lt_of_le (h.zl z hz) hc.size⟩
  · rcases ho with ho | ⟨k, ho, hl⟩
    · rw [ho]; exact h.ne
    · rw [ho]; simp; omega
  · intro k hk e
    have hbl := (h.mach.own.lt k e).2
    rcases ho with ho | ⟨j, ho, hl⟩
    · rw [ho] at hk; exact h.apart k hk e
    · rw [ho] at hk; cases hk; omega
  · intro k hk hz
    rcases ho with ho | ⟨j, ho, hl⟩
    · rw [ho] at hk; exact h.zv k hk hz
    · rw [ho] at hk; cases hk; have := h.zl _ hz; omega
theorem GathZ.turn {Z' : List Nat} (h : GathZ base w p m bv v cs ts Z) (hc : Chg Z w w') (hz : ∀ z ∈ Z', z ∈ Z ∨ w.heap.size ≤ z) (hl : ∀ z ∈ Z', z < w'.heap.size) : GathZ base w' p m bv v cs ts Z' := by
  have hpl := h.mach.plt
  refine ⟨h.mach.chg hc h.zp h.zb, own_chg h.own hc h.zv, h.toks.step hc (fun y hy => List.mem_append_right _ (List.mem_append_right _ hy)) (fun x hx => ?_), h.ne, h.apart, fun hm => ?_, fun k hk hm => ?_, fun k hk hm => ?_, hl⟩
  · simp only [List.cons_append, List.mem_cons, List.mem_append, Option.mem_toList] at hx ⊢
    rcases hx with hx | hx | hx | hx
    · exact .inl (.inl hx)
    · exact .inl (.inr (.inl hx))
    · exact .inl (.inr (.inr (.inl hx)))
    · rcases hz x hx with hx | hx
      · exact .inl (.inr (.inr (.inr hx)))
      · exact .inr hx
  · rcases hz _ hm with hm | hm
    · exact h.zp hm
    · omega
  · have := (h.mach.own.lt k hk).2
    rcases hz _ hm with hm | hm
    · exact h.zb k hk hm
    · omega
  · have := (h.own.lt k hk).2
    rcases hz _ hm with hm | hm
    · exact h.zv k hk hm
    · omega
theorem GathZ.other {u tb bv' : Value} {c : UInt8} {e : TypeId} {size j : Nat} {xs : List Value} (h : GathZ base w p m bv v cs ts u.ownBlock.toList) (hf : Fed base w w' p m bv c tb bv') (hu : w.ownsRow base e size u j xs) : w'.ownsRow base e size u j xs := by
  refine own_chg hu hf.chg (fun k hk hm => ?_)
  have hz : k ∈ u.ownBlock.toList := by simpa using hk
  simp only [List.mem_cons, Option.mem_toList] at hm
  rcases hm with hm | hm
  · subst hm; exact h.zp hz
  · exact h.zb k hm hz
end

set_option maxHeartbeats 4000000 in
set_option maxRecDepth 20000 in
theorem lawParts5 (ps : List (List UInt8)) (A : Option Addr) (n c : Nat) (w : World) (hr : RdL IsBytes w A n ps) :
    Calls Try.prog 5 #[.slice A n c] w fun e w' => e = .returned (.bool true) ∧ Ext w w' := by
  go_enter Try.func5, Try.ntmps5
  by_cases hbig : (40 : Int) < n
  · go_wp2_with (go_at_call 9; refine (iacAlive _).mono ?_; rintro e w1 ⟨rfl, hb1⟩)
    go_ret
    exact ⟨rfl, hb1⟩
  have hl := hr.len
  have HR := Lib.hid hr
  have HL := Lib.hid hl
  clear hr hl
  go_wp2_with (go_at_call 9; refine (iacAlive _).mono ?_; rintro e w1 ⟨rfl, hb1⟩; have hs1 := hb1.size)
  obtain ⟨B, hB⟩ : ∃ B, B = w1.heap.size := ⟨_, rfl⟩
  have hp1 : w1.heap.size + 1 = B + 1 := by omega
  have hB1 : w1.heap.size = B := hB.symm
  have hg0 : GathZ B (((w1.alloc (.cells #[] 5)).alloc (.cells #[.int .i64 0, .int .i64 0, .int .i64 0, .int .i64 0, .slice none 0 0, .bool false] 38)).alloc (.cells #[] 35)) (B + 1) mach0 (.slice none 0 0) (.slice (some ⟨B + 1 + 1, 0, none⟩) 0 0) [] [] [B] := by
    have hm := mach0_at B (w1.alloc (.cells #[] 5)) (by simp; omega)
    have ho := own_empty ((w1.alloc (.cells #[] 5)).alloc (.cells #[.int .i64 0, .int .i64 0, .int .i64 0, .int .i64 0, .slice none 0 0, .bool false] 38)) 35 5
    simp only [World.size_alloc, hB1] at hm ho
    exact ⟨hm.keep (Ext.new1 _ _), own_mono ho (by omega), rfl, by simp [Value.ownBlock], by simp [Value.ownBlock], by simp, by simp [Value.ownBlock], by simp [Value.ownBlock]; omega, by simp; omega⟩
  have ho0 : (((w1.alloc (.cells #[] 5)).alloc (.cells #[.int .i64 0, .int .i64 0, .int .i64 0, .int .i64 0, .slice none 0 0, .bool false] 38)).alloc (.cells #[] 35)).ownsRow B 5 1 (.slice (some ⟨B, 0, none⟩) 0 0) 0 [] := by
    have ho := own_empty w1 5 1
    rw [hB1] at ho
    exact own_ext ho ((Ext.new1 _ _).trans (Ext.new1 _ _))
  have hb0 : Below B w1 (((w1.alloc (.cells #[] 5)).alloc (.cells #[.int .i64 0, .int .i64 0, .int .i64 0, .int .i64 0, .slice none 0 0, .bool false] 38)).alloc (.cells #[] 35)) := by
    rw [hB]; exact (Ext.new1 _ _).trans ((Ext.new1 _ _).trans (Ext.new1 _ _))
  rw [hB1]
  generalize (((w1.alloc (.cells #[] 5)).alloc (.cells #[.int .i64 0, .int .i64 0, .int .i64 0, .int .i64 0, .slice none 0 0, .bool false] 38)).alloc (.cells #[] 35)) = w2 at *
  have hBle : B ≤ w1.heap.size := by omega
  have hBge : w1.heap.size ≤ B := by omega
  clear hB hp1 hB1
  go_loopw [3, 5, 27] (fun va v i wr => ∃ (k : Nat) (bv : Value) (cs : List Value) (m : Mach) (ts : List Tok) (F : List UInt8), k ≤ n ∧ i = .int .i64 k ∧ GathZ B wr (B + 1) m bv v cs ts va.ownBlock.toList ∧ wr.ownsRow B 5 1 va F.length (bytesV F) ∧ runM mach0 F = (ts, m) ∧ F.length ≤ 300 * k ∧ Below B w1 wr) (fun _ _ i _ => n - (intOf i).toNat)
  case atStart => exact ⟨0, _, [], mach0, [], [], Nat.zero_le _, rfl, hg0, ho0, rfl, by simp, hb0⟩
  case round =>
    obtain ⟨k, bv, cs, m, ts, F, hk, rfl, hg, hown, hrun, hF, hb⟩ := hrel
    have hs := hb.size
    have HRUN := Lib.hid hrun
    clear hrun
    by_cases hlt : k < n
    · have hkl : k < ps.length := by have := HL.out; omega
      obtain ⟨b, o, x, rfl, HC, hx⟩ := HR.out.at_ hkl
      have hbw : Below w.heap.size w wr := Below.trans hb1 (hb.mono (by omega))
      have hc0 := HC.out wr hbw
      obtain ⟨A', m', d, rfl, hmd, hdm, hrd⟩ := hx
      have hlen := hrd.len_bytes
      by_cases hm : (300 : Int) < m'
      · clear hlen
        go_wp2
        go_ret
        exact ⟨rfl, hbw⟩
      have HLEN := Lib.hid hlen
      have HRD := Lib.hid hrd
      have HG := Lib.hid hg
      clear hlen hrd hg
      obtain ⟨wo, rfl⟩ : ∃ wo : World, wo = wr := ⟨_, rfl⟩
      go_wp2_with (at_builtin; refine wpList_app2 Try.elemB rfl (.tmp 34) (.tmp 35) rfl (v := u3) rfl hown (by omega) rfl (HRD.out.keep hbw) (one_bytesV _) (by omega) (by unfold maxLen; omega) ?_; intro v1 w3 hown1 hg1 _ hat1)
      have hb3 : Below B w1 w3 := hg1.below hb (Nat.le_refl _) (by omega)
      have hs3 := hb3.size
      have hv1l : ∀ z ∈ v1.ownBlock.toList, z < w3.heap.size := fun z hz => (hown1.lt z (by simpa using hz)).2
      have hgz := HG.out.turn (Z' := v1.ownBlock.toList) hg1.chg (fun z hz => by
        simp only [Option.mem_toList] at hz ⊢
        rcases hat1 with h | h
        · rw [h] at hz; exact .inl hz
        · rw [h] at hz; cases hz; exact .inr (Nat.le_refl _)) hv1l
      have hv1b : ∀ z, v1.ownBlock = some z → z < w3.heap.size := fun z hz => hv1l z (by simpa using hz)
      clear hat1 hg1 hv1l hown HG hc0
      have htl : m' = ps[k].length := HLEN.out.symm
      have hPF : (bytesV F ++ bytesV ps[k]) = bytesV (F ++ ps[k]) := by simp [bytesV]
      rw [hPF] at hown1
      generalize hP : ps[k] = P at *
      have HTL := Lib.hid htl
      clear htl hPF hP
      go_loopw [5, 39] (fun v j wr => ∃ (q : Nat) (bv : Value) (cs : List Value) (m : Mach) (ts : List Tok), q ≤ m' ∧ j = .int .i64 q ∧ GathZ B wr (B + 1) m bv v cs ts v1.ownBlock.toList ∧ wr.ownsRow B 5 1 v1 (F.length + m') (bytesV (F ++ P)) ∧ runM mach0 (F ++ P.take q) = (ts, m) ∧ Below B w1 wr) (fun _ j _ => m' - (intOf j).toNat)
      case atStart => exact ⟨0, bv, cs, m, ts, Nat.zero_le _, rfl, hgz, hown1, by rw [List.take_zero, List.append_nil]; exact HRUN.out, hb3⟩
      case round =>
        clear hgz hown1 HRUN
        obtain ⟨q, bv, cs, m, ts, hq, rfl, hg, hown1, hrun, hb⟩ := hrel
        have hs := hb.size
        by_cases hlq : q < m'
        · have hql : q < P.length := by have := HTL.out; omega
          obtain ⟨b2, o2, rfl, HCB⟩ := HRD.out.bytes (by omega)
          have hbw2 : Below w.heap.size w wr := Below.trans hb1 (hb.mono (by omega))
          have hc1 := HCB.out wr hbw2 q hql
          have hrun1 : runM mach0 (F ++ P.take (q + 1)) = (ts ++ (feed m P[q]).2.toList, (feed m P[q]).1) := by
            rw [List.take_succ_eq_append_getElem hql, ← List.append_assoc, runM_snoc, hrun]
          have HRUN := Lib.hid hrun1
          have hlen : ts.length ≤ 12300 := by have := runM_len (F ++ P.take q) mach0; rw [hrun] at this; simp at this; omega
          clear hrun hrun1
          cases hf : (feed m P[q]).2 with
          | none =>
            have HF := Lib.hid hf
            clear hf
            go_wp2_with (go_at_call 16; refine (iacFeedN P[q] _ hg.mach HF.out).mono ?_; rintro e w4 ⟨A1, n1, d1, bv1, rfl, hfd⟩; have hb4 := hfd.chg.below hb (by omega) (by have := fun k hk => (hg.mach.own.lt k hk).1; simp; exact this); have hg4 := hg.fed hfd; have hown4 := hg.other hfd hown1; have hs4 := hb4.size; clear hfd hown1)
            exact ⟨⟨q + 1, bv1, cs, _, ts, by omega, by go_num, hg4.keep (Ext.new1 _ _), own_ext hown4 (Ext.new1 _ _), by rw [HRUN.out, HF.out]; simp, hb4.alloc (by omega) _⟩, by simp [intOf]; omega⟩
          | some t =>
            have HF := Lib.hid hf
            clear hf
            go_wp2_with (first
              | (at_builtin; refine wpList_app2 Try.elemT rfl (.tmp 50) (.tmp 52) rfl (v := u5) rfl (hg4.keep ((Ext.new1 _ (.cells #[.int .i64 t.kind, .int .i64 t.code, .int .i64 t.opt, .slice A1 n1 d1, .bool t.cut] 35)).trans (Ext.new1 _ _))).own (by simp; omega) rfl (rd_newAt _ 5 1 [.int .i64 t.kind, .int .i64 t.code, .int .i64 t.opt, .slice A1 n1 d1, .bool t.cut] _ rfl (by simp)) (by simp [Value.oneCell']) (by omega) (by unfold maxLen; omega) ?_; intro v5 w5 hown5 hg5 _ hat5)
              | (go_at_call 16; refine (iacFeedS P[q] _ t hg.mach HF.out).mono ?_; rintro e w4 ⟨A1, n1, d1, bv1, rfl, hfd, hrd1, hnd1, hdm1⟩; have hb4 := hfd.chg.below hb (by omega) (by have := fun k hk => (hg.mach.own.lt k hk).1; simp; exact this); have hg4 := hg.fed hfd; have hown4 := hg.other hfd hown1; have hs4 := hb4.size; have HFD := Lib.hid hfd; clear hfd hown1))
            have hbody := HFD.out.body (u5.ownBlock.toList ++ v1.ownBlock.toList) (fun k hk hm => by
              simp only [List.mem_append, Option.mem_toList] at hm
              rcases hm with hm | hm
              · exact hg.apart k hm hk
              · exact hg.zb k hk (by simpa using hm))
            rw [HF.out] at hbody
            have hg6 := (hg4.keep ((Ext.new1 _ (.cells #[.int .i64 t.kind, .int .i64 t.code, .int .i64 t.opt, .slice A1 n1 d1, .bool t.cut] 35)).trans (Ext.new1 _ (.cells #[.int .i64 t.kind, .int .i64 t.code, .int .i64 t.opt, .slice A1 n1 d1, .bool t.cut] 35)))).app hown5 hg5.chg (by
              rcases hat5 with h | h
              · exact .inl h
              · exact .inr ⟨_, h, Nat.le_refl _⟩) (hbody.step (Y := []) (((Chg.refl _ _).alloc _).alloc _) (by simp) (fun x hx => .inl hx))
            have hown6 := own_chg (own_ext hown4 ((Ext.new1 _ (.cells #[.int .i64 t.kind, .int .i64 t.code, .int .i64 t.opt, .slice A1 n1 d1, .bool t.cut] 35)).trans (Ext.new1 _ (.cells #[.int .i64 t.kind, .int .i64 t.code, .int .i64 t.opt, .slice A1 n1 d1, .bool t.cut] 35)))) hg5.chg (fun k hk hm => hg4.zv k (by simpa using hm) (by simpa using hk))
            have hb6 : Below B w1 w5 := hg5.below ((hb4.alloc (by omega) _).alloc (by simp; omega) _) (Nat.le_refl _) (by simp; omega)
            exact ⟨⟨q + 1, bv1, _, _, _, by omega, by go_num, hg6, hown6, by rw [HRUN.out, HF.out]; rfl, hb6⟩, by simp [intOf]; omega⟩
        · obtain rfl : q = m' := by omega
          have ht : P.take q = P := List.take_of_length_le (by have := HTL.out; omega)
          rw [ht] at hrun
          have HRUN := Lib.hid hrun
          have hpl : P.length = q := HTL.out.symm
          have HPL := Lib.hid hpl
          clear hrun ht hpl
          go_wp2
          exact ⟨⟨k + 1, bv, cs, m, ts, F ++ P, by omega, by go_num, hg, by rw [List.length_append, HPL.out]; exact hown1, HRUN.out, by rw [List.length_append, HPL.out]; omega, hb⟩, by simp [intOf]; omega⟩
    · obtain rfl : k = n := by omega
      obtain ⟨A3, c3, hv3, h31, h32, hrd3⟩ := own_rd hown
      obtain ⟨A5, c5, hv5, h51, h52, hrd5⟩ := hg.own |> own_rd
      subst hv3 hv5
      have hmach := hg.mach
      have htok := (hg.toks.free).ext (Ext.refl _)
      have hbody : ∀ t ∈ ts, t.body.length ≤ 256 := fun t ht => runM_body F mach0 mach0_ok t (by rw [HRUN.out]; exact ht)
      have hts : ts.length ≤ 12000 := by have := runM_len F mach0; rw [HRUN.out] at this; simp at this; omega
      have hbw : Below w.heap.size w wr := Below.trans hb1 (hb.mono (by omega))
      have HBODY := Lib.hid hbody
      clear hbody hg hown
      go_wp2_with (first
        | (go_at_call 18; refine (iacIdle _ (hmach.keep hb7)).mono ?_; rintro e w8 ⟨rfl, rfl⟩)
        | (go_at_call 11; refine (iacAll F _ _ _ _ hrd3 (by omega)).mono ?_; rintro e w7 ⟨v7, cz, rfl, hown7, htk7, hb7⟩; rw [HRUN.out] at hown7 htk7; rw [HRUN.out]; obtain ⟨A7, c7, hv7, _, _, hrd7⟩ := own_rd hown7; have htA := htk7.free; clear htk7 hown7; subst hv7))
      have htB := htok.ext hb7
      have hrB := hrd5.keep hb7
      have hw7 : Ext w w7 := Ext.trans hbw hb7
      clear htok hrd5 hmach hb hrd3 hbw hb7
      generalize hn0 : ts.length = n0 at *
      have HN := Lib.hid hn0
      clear hn0
      go_loopw [74] (fun i wr => ∃ k : Nat, k ≤ n0 ∧ i = .int .i64 k ∧ Ext w7 wr) (fun i _ => n0 - (intOf i).toNat)
      case atStart => exact ⟨0, Nat.zero_le _, rfl, Ext.refl _⟩
      case round =>
        obtain ⟨k, hk, rfl, hb⟩ := hrel
        by_cases hlt : k < n0
        · have hkl : k < ts.length := by have := HN.out; omega
          obtain ⟨t, ht⟩ : ∃ t, ts[k]? = some t := ⟨_, List.getElem?_eq_getElem hkl⟩
          obtain ⟨ta, c0, c1, c2, c3, c4, Aa, na, da, rfl, hna, hda, hra, _⟩ := htA.at_ ht
          have hna256 : (na : Int) ≤ 256 := by have h1 := HBODY.out t (List.mem_of_getElem? ht); have h2 := hra.len_bytes; omega
          obtain ⟨tb, d0, d1, d2, d3, d4, Ab, nb, db, rfl, hnb, hdb, hrb, _⟩ := htB.at_ ht
          obtain ⟨ba, oa, rfl, hba, hca⟩ := hrd7.2 (by have := hrd7.1; omega)
          obtain ⟨bb, ob, rfl, hbb, hcb⟩ := hrB.2 (by have := hrB.1; omega)
          have a0 := (hb.cell (p := ⟨ba, _, none⟩) hba).trans (hca _ _ c0)
          have a1 := (hb.cell (p := ⟨ba, _, none⟩) hba).trans (hca _ _ c1)
          have a2 := (hb.cell (p := ⟨ba, _, none⟩) hba).trans (hca _ _ c2)
          have a3 := (hb.cell (p := ⟨ba, _, none⟩) hba).trans (hca _ _ c3)
          have a4 := (hb.cell (p := ⟨ba, _, none⟩) hba).trans (hca _ _ c4)
          simp only [← Nat.add_assoc] at a0 a1 a2 a3 a4
          have hbb' : bb < wr.heap.size := by have := hb.size; omega
          have hxb := Blk.newL wr 35 [.int .i64 t.kind, .int .i64 t.code, .int .i64 t.opt, .slice Aa na da, .bool t.cut]
          have hbw := Below.alloc hb hb.size (.cells #[.int .i64 t.kind, .int .i64 t.code, .int .i64 t.opt, .slice Aa na da, .bool t.cut] 35)
          go_wp2
          clear a0 a1 a2 a3 a4
          generalize wr.alloc (.cells #[.int .i64 t.kind, .int .i64 t.code, .int .i64 t.opt, .slice Aa na da, .bool t.cut] 35) = wa at hxb hbw ⊢
          have hX : ∀ wx, Ext wa wx → wx.cell? ⟨wr.heap.size, 0, none⟩ = some (.int .i64 t.kind) ∧ wx.cell? ⟨wr.heap.size, 1, none⟩ = some (.int .i64 t.code) ∧ wx.cell? ⟨wr.heap.size, 2, none⟩ = some (.int .i64 t.opt) ∧ wx.cell? ⟨wr.heap.size, 3, none⟩ = some (.slice Aa na da) ∧ wx.cell? ⟨wr.heap.size, 4, none⟩ = some (.bool t.cut) := fun wx h => by
            have := hxb.keep h
            exact ⟨this.cell 0, this.cell 1, this.cell 2, this.cell 3, this.cell 4⟩
          have hY : ∀ wx, Ext wa wx → wx.cell? ⟨bb, ob + k * 5, none⟩ = some (.int .i64 t.kind) ∧ wx.cell? ⟨bb, ob + k * 5 + 1, none⟩ = some (.int .i64 t.code) ∧ wx.cell? ⟨bb, ob + k * 5 + 2, none⟩ = some (.int .i64 t.opt) ∧ wx.cell? ⟨bb, ob + k * 5 + 3, none⟩ = some (.slice Ab nb db) ∧ wx.cell? ⟨bb, ob + k * 5 + 4, none⟩ = some (.bool t.cut) := fun wx h => by
            have hc : ∀ j u, cs[j]? = some u → wx.cell? ⟨bb, ob + j, none⟩ = some u := fun j u hu => ((hbw.trans (Below.mono h hbw.size)).cell (p := ⟨bb, _, none⟩) hbb).trans (hcb j u hu)
            simp only [Nat.add_assoc]
            exact ⟨hc _ _ d0, hc _ _ d1, hc _ _ d2, hc _ _ d3, hc _ _ d4⟩
          have hra' : ∀ wx, Ext wa wx → Rd wx 1 Aa na (bytesV t.body) := fun wx h => hra.keep (hbw.trans (Below.mono h hbw.size))
          have hrb' : ∀ wx, Ext wa wx → Rd wx 1 Ab nb (bytesV t.body) := fun wx h => hrb.keep (hbw.trans (Below.mono h hbw.size))
          have HX := Lib.hid hX
          have HY := Lib.hid hY
          have HA := Lib.hid hra'
          have HB := Lib.hid hrb'
          have HT := Lib.hid ht
          clear hX hY hra' hrb' ht d0 d1 d2 d3 d4 c0 c1 c2 c3 c4 hca hcb hxb
          -- DAG IacParts28
          refine wp_region_dag (E := Ext) (w0 := wa) (Φ := fun i v w => match i with | 0 => (v = .agg #[.int .i64 t.kind, .int .i64 t.code, .int .i64 t.opt, .slice Aa na da, .bool t.cut]) | 1 => (v = .slice (some ⟨bb, ob, none⟩) n0 c5) | 2 => (v = .int .i64 k) | 3 => (v = .pointer (some ⟨bb, ob + k * 5, none⟩)) | 4 => (v = .agg #[.int .i64 t.kind, .int .i64 t.code, .int .i64 t.opt, .slice Ab nb db, .bool t.cut]) | 5 => (v = .bool true) | 6 => (v = .bool false) | 7 => (v = .bool false) | 8 => (v = .pointer (some ⟨wr.heap.size, 3, none⟩)) | 9 => (v = .slice Aa na da) | 10 => (v = .int .i64 na) | 11 => (v = .bool false) | 12 => (v = .bool false) | _ => True) (show Try.prog.follows .mixedOrders = true from Checked.mixed Try.checked) 93 rfl (by decide +kernel) ?_ ((Below.refl _ _).drew) ?_ ⟨?_, ?_, ?_, ?_, ?_, ?_, ?_, ?_, ?_, ?_, ?_, ?_, ?_, trivial⟩ ?_
          · intro i v w w' h hE
            match i, h with
            | 0, h => exact h
            | 1, h => exact h
            | 2, h => exact h
            | 3, h => exact h
            | 4, h => exact h
            | 5, h => exact h
            | 6, h => exact h
            | 7, h => exact h
            | 8, h => exact h
            | 9, h => exact h
            | 10, h => exact h
            | 11, h => exact h
            | 12, h => exact h
            | _ + 13, _ => trivial
          · exact fun w w' h h' => h.trans h'
          · -- 0: t79 := load 35 t15 
            intro ac wx hE hsz hdf h
            have e15 : ac.tmps[15]? = some (.pointer (some ⟨wr.heap.size, 0, none⟩)) := by obtain ⟨v, h1, h2⟩ := h 15 (by decide +kernel); exact h1.trans (h2.symm.trans rfl)
            clear h hsz hdf
            obtain ⟨x0, x1, x2, x3, x4⟩ := HX.out wx hE
            go_wp2
            exact ⟨_, rfl, rfl, Ext.refl _⟩
          · -- 1: t80 := move t5 
            intro ac wx hE hsz hdf h
            have e5 : ac.tmps[5]? = some (.slice (some ⟨bb, ob, none⟩) n0 c5) := by obtain ⟨v, h1, h2⟩ := h 5 (by decide +kernel); exact h1.trans (h2.symm.trans rfl)
            clear h hsz hdf
            go_wp2
            exact ⟨_, rfl, rfl, Ext.refl _⟩
          · -- 2: t81 := move t14 
            intro ac wx hE hsz hdf h
            have e14 : ac.tmps[14]? = some (.int .i64 k) := by obtain ⟨v, h1, h2⟩ := h 14 (by decide +kernel); exact h1.trans (h2.symm.trans rfl)
            clear h hsz hdf
            go_wp2
            exact ⟨_, rfl, rfl, Ext.refl _⟩
          · -- 3: t82 := indexAddr 25 t80 t81 
            intro ac wx hE hsz hdf h
            have e80 : ac.tmps[80]? = some (.slice (some ⟨bb, ob, none⟩) n0 c5) := by obtain ⟨v, h1, h2⟩ := h 80 (by decide +kernel); rw [h1]; exact congrArg some h2
            have e81 : ac.tmps[81]? = some (.int .i64 k) := by obtain ⟨v, h1, h2⟩ := h 81 (by decide +kernel); rw [h1]; exact congrArg some h2
            clear h hsz hdf
            have hkn : (k : Int) < n0 := by omega
            go_wp2
            exact ⟨_, rfl, rfl, Ext.refl _⟩
          · -- 4: t83 := load 35 t82 
            intro ac wx hE hsz hdf h
            have e82 : ac.tmps[82]? = some (.pointer (some ⟨bb, ob + k * 5, none⟩)) := by obtain ⟨v, h1, h2⟩ := h 82 (by decide +kernel); rw [h1]; exact congrArg some h2
            clear h hsz hdf
            obtain ⟨y0, y1, y2, y3, y4⟩ := HY.out wx hE
            go_wp2
            exact ⟨_, rfl, rfl, Ext.refl _⟩
          · -- 5: t84 := call { value (Operand.func 19), args := #[t79, t83], argTypes := #[35, 35] } 
            intro ac wx hE hsz hdf h
            have e79 : ac.tmps[79]? = some (.agg #[.int .i64 t.kind, .int .i64 t.code, .int .i64 t.opt, .slice Aa na da, .bool t.cut]) := by obtain ⟨v, h1, h2⟩ := h 79 (by decide +kernel); rw [h1]; exact congrArg some h2
            have e83 : ac.tmps[83]? = some (.agg #[.int .i64 t.kind, .int .i64 t.code, .int .i64 t.opt, .slice Ab nb db, .bool t.cut]) := by obtain ⟨v, h1, h2⟩ := h 83 (by decide +kernel); rw [h1]; exact congrArg some h2
            clear h hsz hdf
            go_wp2_with ((go_at_call 19; refine (iacSame t t Aa Ab na da nb db _ (HA.out wx hE) (HB.out wx hE)).mono ?_; rintro e w' ⟨rfl, hb2⟩; rw [tokEq_refl]))
            exact ⟨_, rfl, rfl, hb2⟩
          · -- 6: t85 := unOp UnOp.not 4 t84 
            intro ac wx hE hsz hdf h
            have e84 : ac.tmps[84]? = some (.bool true) := by obtain ⟨v, h1, h2⟩ := h 84 (by decide +kernel); rw [h1]; exact congrArg some h2
            clear h hsz hdf
            go_wp2
            exact ⟨_, rfl, rfl, Ext.refl _⟩
          · -- 7: t86 := move t85 
            intro ac wx hE hsz hdf h
            have e85 : ac.tmps[85]? = some (.bool false) := by obtain ⟨v, h1, h2⟩ := h 85 (by decide +kernel); rw [h1]; exact congrArg some h2
            clear h hsz hdf
            go_wp2
            exact ⟨_, rfl, rfl, Ext.refl _⟩
          · -- 8: t87 := fieldAddr 35 t15 3 (7, False)
            intro ac wx hE hsz hdf h
            have e15 : ac.tmps[15]? = some (.pointer (some ⟨wr.heap.size, 0, none⟩)) := by obtain ⟨v, h1, h2⟩ := h 15 (by decide +kernel); exact h1.trans (h2.symm.trans rfl)
            have e86 : ac.tmps[86]? = some (.bool false) := by obtain ⟨v, h1, h2⟩ := h 86 (by decide +kernel); rw [h1]; exact congrArg some h2
            clear h hsz hdf
            go_wp2
            exact ⟨_, rfl, rfl, Ext.refl _⟩
          · -- 9: t88 := load 22 t87 (7, False)
            intro ac wx hE hsz hdf h
            have e87 : ac.tmps[87]? = some (.pointer (some ⟨wr.heap.size, 3, none⟩)) := by obtain ⟨v, h1, h2⟩ := h 87 (by decide +kernel); rw [h1]; exact congrArg some h2
            have e86 : ac.tmps[86]? = some (.bool false) := by obtain ⟨v, h1, h2⟩ := h 86 (by decide +kernel); rw [h1]; exact congrArg some h2
            clear h hsz hdf
            obtain ⟨x0, x1, x2, x3, x4⟩ := HX.out wx hE
            go_wp2
            exact ⟨_, rfl, rfl, Ext.refl _⟩
          · -- 10: t89 := call { builtin len, args := #[t88], argTypes := #[22] } (7, False)
            intro ac wx hE hsz hdf h
            have e88 : ac.tmps[88]? = some (.slice Aa na da) := by obtain ⟨v, h1, h2⟩ := h 88 (by decide +kernel); rw [h1]; exact congrArg some h2
            have e86 : ac.tmps[86]? = some (.bool false) := by obtain ⟨v, h1, h2⟩ := h 86 (by decide +kernel); rw [h1]; exact congrArg some h2
            clear h hsz hdf
            go_wp2
            exact ⟨_, rfl, rfl, Ext.refl _⟩
          · -- 11: t90 := binOp BinOp.gtr 3 t89 (const (256:i64)) 3 (7, False)
            intro ac wx hE hsz hdf h
            have e89 : ac.tmps[89]? = some (.int .i64 na) := by obtain ⟨v, h1, h2⟩ := h 89 (by decide +kernel); rw [h1]; exact congrArg some h2
            have e86 : ac.tmps[86]? = some (.bool false) := by obtain ⟨v, h1, h2⟩ := h 86 (by decide +kernel); rw [h1]; exact congrArg some h2
            clear h hsz hdf
            go_wp2
            exact ⟨_, rfl, by simp; omega, Ext.refl _⟩
          · -- 12: t91 := pick t86 (const (Value.bool true)) t90 
            intro ac wx hE hsz hdf h
            have e86 : ac.tmps[86]? = some (.bool false) := by obtain ⟨v, h1, h2⟩ := h 86 (by decide +kernel); rw [h1]; exact congrArg some h2
            have e90 : ac.tmps[90]? = some (.bool false) := by obtain ⟨v, h1, h2⟩ := h 90 (by decide +kernel); rw [h1]; exact congrArg some h2
            clear h hsz hdf
            go_wp2
            exact ⟨_, rfl, rfl, Ext.refl _⟩
          · intro a w9 hE hsz hdf h hrest
            obtain ⟨v0, s0, g0⟩ := h 0 _ rfl
            have e0 := g0 79 rfl
            obtain rfl : v0 = .agg #[.int .i64 t.kind, .int .i64 t.code, .int .i64 t.opt, .slice Aa na da, .bool t.cut] := s0
            obtain ⟨v1, s1, g1⟩ := h 1 _ rfl
            have e1 := g1 80 rfl
            obtain rfl : v1 = .slice (some ⟨bb, ob, none⟩) n0 c5 := s1
            obtain ⟨v2, s2, g2⟩ := h 2 _ rfl
            have e2 := g2 81 rfl
            obtain rfl : v2 = .int .i64 k := s2
            obtain ⟨v3, s3, g3⟩ := h 3 _ rfl
            have e3 := g3 82 rfl
            obtain rfl : v3 = .pointer (some ⟨bb, ob + k * 5, none⟩) := s3
            obtain ⟨v4, s4, g4⟩ := h 4 _ rfl
            have e4 := g4 83 rfl
            obtain rfl : v4 = .agg #[.int .i64 t.kind, .int .i64 t.code, .int .i64 t.opt, .slice Ab nb db, .bool t.cut] := s4
            obtain ⟨v5, s5, g5⟩ := h 5 _ rfl
            have e5 := g5 84 rfl
            obtain rfl : v5 = .bool true := s5
            obtain ⟨v6, s6, g6⟩ := h 6 _ rfl
            have e6 := g6 85 rfl
            obtain rfl : v6 = .bool false := s6
            obtain ⟨v7, s7, g7⟩ := h 7 _ rfl
            have e7 := g7 86 rfl
            obtain rfl : v7 = .bool false := s7
            obtain ⟨v8, s8, g8⟩ := h 8 _ rfl
            have e8 := g8 87 rfl
            obtain rfl : v8 = .pointer (some ⟨wr.heap.size, 3, none⟩) := s8
            obtain ⟨v9, s9, g9⟩ := h 9 _ rfl
            have e9 := g9 88 rfl
            obtain rfl : v9 = .slice Aa na da := s9
            obtain ⟨v10, s10, g10⟩ := h 10 _ rfl
            have e10 := g10 89 rfl
            obtain rfl : v10 = .int .i64 na := s10
            obtain ⟨v11, s11, g11⟩ := h 11 _ rfl
            have e11 := g11 90 rfl
            obtain rfl : v11 = .bool false := s11
            obtain ⟨v12, s12, g12⟩ := h 12 _ rfl
            have e12 := g12 91 rfl
            obtain rfl : v12 = .bool false := s12
            have ha := act_of [(79, .agg #[.int .i64 t.kind, .int .i64 t.code, .int .i64 t.opt, .slice Aa na da, .bool t.cut]), (80, .slice (some ⟨bb, ob, none⟩) n0 c5), (81, .int .i64 k), (82, .pointer (some ⟨bb, ob + k * 5, none⟩)), (83, .agg #[.int .i64 t.kind, .int .i64 t.code, .int .i64 t.opt, .slice Ab nb db, .bool t.cut]), (84, .bool true), (85, .bool false), (86, .bool false), (87, .pointer (some ⟨wr.heap.size, 3, none⟩)), (88, .slice Aa na da), (89, .int .i64 na), (90, .bool false), (91, .bool false)] rfl hsz hdf (by intro p hp; simp only [List.mem_cons, List.not_mem_nil, or_false] at hp; rcases hp with rfl | rfl | rfl | rfl | rfl | rfl | rfl | rfl | rfl | rfl | rfl | rfl | rfl <;> first | exact e0 | exact e1 | exact e2 | exact e3 | exact e4 | exact e5 | exact e6 | exact e7 | exact e8 | exact e9 | exact e10 | exact e11 | exact e12) hrest
            clear h hrest hsz hdf e0 e1 e2 e3 e4 e5 e6 e7 e8 e9 e10 e11 e12 g0 g1 g2 g3 g4 g5 g6 g7 g8 g9 g10 g11 g12
            subst ha
            simp only [List.foldl_cons, List.foldl_nil, Act.put, List.setIfInBounds_toArray, List.set_cons_succ, List.set_cons_zero]
            go_wp2
            exact ⟨⟨k + 1, by omega, by go_num, hbw.trans (Below.mono hE hbw.size)⟩, by simp [intOf]; omega⟩
          -- GAD IacParts28
        · obtain rfl : k = n0 := by omega
          go_wp2
          go_ret
          exact ⟨rfl, hw7.trans hb⟩
end Go.Proofs.Ytbipkbpcjkgohaa
