/- Places to which a tree goes any number of times: a goto back. -/
import Derived.Test.YtmfdnjddggaeaaaDoorMn4
import Derived.ScopeJumps
import Derived.WalkMore
namespace Go.Proofs.YtmfdnjddggaeaaaDoor
open Go Go.RowKit
attribute [local irreducible] wd

section
variable {P : Program} {a : Act} {w : World} {Q : Exit → Act → World → Prop}
/-- A scope in which the run jumps back to one label: what is lowered is a letter of what holds (after the kit's law, whose measure reads the frame). -/
theorem wp_scope_ghost {c rest : Code} (l : Nat) (J : Nat → Act → World → Prop) (hf : findLabel c l = some rest)
    (first : c.wp P (Exit.jump l (fun a' w' => ∃ g, J g a' w') Q) a w)
    (pass : ∀ g a w, J g a w → rest.wp P (Exit.jump l (fun a' w' => ∃ g', g' < g ∧ J g' a' w') Q) a w) : (Code.scope c).wp P Q a w := by
  intro b k cs
  have hg : gotoIn l (.inScope c :: k) = some (.code rest :: .inScope c :: k) := by simp [gotoIn, hf]
  have key : ∀ n a w, J n a w → ∃ e a' w', Q e a' w' ∧ Arrives P (lone (b.at a (.code rest :: .inScope c :: k)) cs w) b k cs e a' w' := by
    intro n
    induction n using Nat.strongRecOn with
    | _ n ih =>
      intro a w hJ
      obtain ⟨e, a₁, w₁, hq, harr⟩ := pass n a w hJ b (.inScope c :: k) cs
      cases e with
      | normal => exact ⟨.normal, a₁, w₁, hq, Steps.trans harr (.one step_inScope)⟩
      | exit id => exact ⟨.exit id, a₁, w₁, hq, fun k' hk => harr k' (by simp [exitTo, hk])⟩
      | goto l' =>
        obtain ⟨rfl, g', hlt, hJ'⟩ := hq
        obtain ⟨e₂, a₂, w₂, hq₂, harr₂⟩ := ih g' hlt a₁ w₁ hJ'
        exact ⟨e₂, a₂, w₂, hq₂, .of_steps (harr _ hg) harr₂⟩
      | ret => exact ⟨_, a₁, w₁, hq, harr⟩
      | panic ch => exact ⟨_, a₁, w₁, hq, harr⟩
      | outgrown => exact ⟨_, a₁, w₁, hq, harr⟩
  obtain ⟨e, a₁, w₁, hq, harr⟩ := first b (.inScope c :: k) cs
  cases e with
  | normal => exact ⟨.normal, a₁, w₁, hq, .head step_scope (Steps.trans harr (.one step_inScope))⟩
  | exit id => exact ⟨.exit id, a₁, w₁, hq, fun k' hk => .head step_scope (harr k' (by simp [exitTo, hk]))⟩
  | goto l' =>
    obtain ⟨rfl, g, hJ'⟩ := hq
    obtain ⟨e₂, a₂, w₂, hq₂, harr₂⟩ := key _ a₁ w₁ hJ'
    exact ⟨e₂, a₂, w₂, hq₂, .of_steps (.head step_scope (harr _ hg)) harr₂⟩
  | ret => exact ⟨_, a₁, w₁, hq, .of_steps (.one step_scope) harr⟩
  | panic ch => exact ⟨_, a₁, w₁, hq, .of_steps (.one step_scope) harr⟩
  | outgrown => exact ⟨_, a₁, w₁, hq, .of_steps (.one step_scope) harr⟩
end

theorem plv_rd {w : World} {A : Option Addr} {n c : Nat} {p : List Bool} (h : PlV w (.slice A n c) p) : Rd w 1 A n (boolsV p) := by
  obtain ⟨A', c', e, _, _, hr⟩ := h
  simp only [Value.slice.injEq] at e
  obtain ⟨rfl, rfl, rfl⟩ := e
  exact hr
theorem jump_goto {l : Nat} {J : Act → World → Prop} {Q : Exit → Act → World → Prop} {a : Act} {w : World} (h : J a w) : Exit.jump l J Q (.goto l) a w := ⟨rfl, h⟩
/-- What step answers of one tree. -/
def StepAt (l : List UInt8) (t : T) : Prop := ∀ S w v u p, NodeV S w t v → PlV w u p → p.length = l.length + 1 →
  Calls Tryd.prog 76 #[.agg v.toArray, .string ⟨l.toArray⟩, u] w fun e w' => ∃ r, e = .returned r ∧ PlV w' r (stepT l t p) ∧ Ext w w'

theorem closF_go {f : List Bool → List Bool} {n : Nat} {p R : List Bool} (hl : p.length = (f p).length) (ho : outs p < n) (h : closF f n p = R) : (orL p (f p) = p → R = p) ∧ (orL p (f p) ≠ p → ∃ n', n' < n ∧ outs (orL p (f p)) < n' ∧ closF f n' (orL p (f p)) = R) := by
  cases n with
  | zero => omega
  | succ n =>
    rw [closF] at h
    refine ⟨fun e => by rw [if_pos e] at h; exact h.symm, fun e => ?_⟩
    rw [if_neg e] at h
    have := (outs_or hl).2 e
    exact ⟨n, by omega, by omega, h⟩

set_option maxHeartbeats 4000000 in
set_option maxRecDepth 20000 in
theorem mnClosed (l : List UInt8) (hn : l.length ≤ 1000000) (t : T) (hst : StepAt l t) (S : Nat → Prop) (w : World) (v : List Value) (u : Value) (p : List Bool) (h : NodeV S w t v) (hu : PlV w u p) (hp : p.length = l.length + 1) :
    Calls Tryd.prog 91 #[.agg v.toArray, .string ⟨l.toArray⟩, u] w fun e w' => ∃ r, e = .returned r ∧ PlV w' r (closF (stepT l t) (p.length + 1) p) ∧ Ext w w' := by
  obtain ⟨k, m, z, s, A, n, c, rfl⟩ := nodeV_form h
  obtain ⟨R, hR⟩ : ∃ R, closF (stepT l t) (p.length + 1) p = R := ⟨_, rfl⟩
  have hlen : ∀ q : List Bool, q.length = l.length + 1 → (stepT l t q).length = l.length + 1 := fun q hq => (stepT_sem l t q hq).1
  have hx0 := Lib.hid (Ext.new1 w (.cells (nodeC k m z s A n c).toArray 27))
  have HV := Lib.hid (h.keep hx0.out)
  have HB := Lib.hid (Blk.new w 27 (nodeC k m z s A n c).toArray)
  have HU := Lib.hid (hu.keep hx0.out)
  have HST := Lib.hid hst
  have HLEN := Lib.hid hlen
  have HP := Lib.hid hp
  have HN := Lib.hid hn
  have HO := Lib.hid (show outs p < p.length + 1 by have := outs_le p; omega)
  have HR := Lib.hid hR
  rw [hR]
  clear h hu hst hlen hp hn hR
  obtain ⟨A0, c0, rfl, -, -, -⟩ := HU.out
  unfold nodeC at hx0 HV HB HU ⊢
  go_enter Tryd.func91, Tryd.ntmps91
  go_wp2
  obtain ⟨g0, hg0⟩ : ∃ g0, w.heap.size = g0 := ⟨_, rfl⟩
  rw [hg0] at HB ⊢
  clear hg0
  generalize w.alloc (.cells #[.int .i64 k, .int .i64 m, .bool z, .int .u64 (wd s 0 : Nat), .int .u64 (wd s 1 : Nat), .int .u64 (wd s 2 : Nat), .int .u64 (wd s 3 : Nat), .slice A n c] 27) = w0 at *
  have HB := Lib.hid (show NodeB w0 g0 k m z s A n c from HB.out)
  refine wp_scope_ghost 0 (fun g a' w' => ∃ (q : List Bool) (Aq : Option Addr) (nq cq : Nat) (u4 u5 u6 u7 u8 u9 u10 u11 u12 u13 u14 u15 u16 u17 u18 u19 : Value), a' = { tmps := #[Value.agg #[.int .i64 k, .int .i64 m, .bool z, .int .u64 (wd s 0 : Nat), .int .u64 (wd s 1 : Nat), .int .u64 (wd s 2 : Nat), .int .u64 (wd s 3 : Nat), .slice A n c], .string ⟨l.toArray⟩, .slice Aq nq cq, .pointer (some ⟨g0, 0, none⟩), u4, u5, u6, u7, u8, u9, u10, u11, u12, u13, u14, u15, u16, u17, u18, u19], defers := [] } ∧ nq = l.length + 1 ∧ PlV w' (.slice Aq nq cq) q ∧ q.length = l.length + 1 ∧ outs q < g ∧ closF (stepT l t) g q = R ∧ Ext w0 w') rfl ?_ ?_
  focus
    go_wp2
    go_step3
    obtain ⟨Aq, hAq⟩ : ∃ Aq, A0 = Aq := ⟨_, rfl⟩
    obtain ⟨cq, hcq⟩ : ∃ cq, c0 = cq := ⟨_, rfl⟩
    subst hAq
    subst hcq
    obtain ⟨q, hq⟩ : ∃ q, p = q := ⟨_, rfl⟩
    subst hq
    have HQ := HU
    have HQL := HP
    have HQO := HO
    have HQC := HR
    have HXN := Lib.hid (Ext.refl w0)
    obtain ⟨q0, q1, q2, q3, q4, q5, q6, q7⟩ := (HB.out.keep HXN.out).cells
    go_upto_region 3 with (first
      | (have := hx1; go_at_call 90; refine (mnOr p (stepT l t p) (by rw [HLEN.out p HQL.out, HQL.out]) (by rw [HQL.out]; omega) (by rw [HQL.out]; have := HN.out; omega) (.slice A0 p.length c0) (.slice A1 (stepT l t p).length c1) _ (HQ.out.keep hx1) HP1.out).mono ?_; rintro e w2 ⟨r2, rfl, hp2, hx2⟩; obtain ⟨A2, c2, rfl, -, -, -⟩ := id hp2)
      | (go_at_call 76; refine (HST.out S _ (nodeC k m z s A n c) (.slice A0 p.length c0) p (HV.out.keep HXN.out) HQ.out HQL.out).mono ?_; rintro e w1 ⟨r1, rfl, hp1, hx1⟩; obtain ⟨A1, c1, rfl, -, -, -⟩ := id hp1; have HP1 := Lib.hid hp1; clear hp1))
    clear q0 q1 q2 q3 q4 q5 q6 q7
    have HP2 := Lib.hid hp2
    have HX2 := Lib.hid (Ext.trans HXN.out (Ext.trans hx1 hx2))
    have HQ2 := Lib.hid ((HQ.out.keep hx1).keep hx2)
    clear hp2 hx1 hx2
    obtain ⟨h1, h2⟩ := closF_go (f := stepT l t) (by rw [HLEN.out p HQL.out, HQL.out]) HQO.out HQC.out
    have H1 := Lib.hid h1
    have H2 := Lib.hid h2
    clear h1 h2
    have hol : (orL p (stepT l t p)).length = l.length + 1 := by rw [orL_len (by rw [HLEN.out p HQL.out, HQL.out]), HQL.out]
    obtain ⟨r, hr⟩ : ∃ r, decide (orL p (stepT l t p) = p) = r := ⟨_, rfl⟩
    have HRD := Lib.hid hr
    have HOL := Lib.hid hol
    rw [hol] at HP2 ⊢
    clear hr hol
    cases r
    focus
      have hne : orL p (stepT l t p) ≠ p := of_decide_eq_false HRD.out
      have HNE := Lib.hid hne
      clear hne
      go_wp2_with (go_at_call 104; refine (plEqual (orL p (stepT l t p)) p _ _ _ _ _ _ _ (plv_rd HP2.out) (plv_rd HQ2.out) (by have := HN.out; have := HOL.out; omega) (by have := HN.out; have := HQL.out; omega) false HRD.out).mono ?_; rintro e w3 ⟨rfl, hx3⟩)
      go_step3
      obtain ⟨n', hn1, hn2, hn3⟩ := H2.out HNE.out
      simp only [Exit.then]
      refine jump_goto ?_
      exact ⟨n', orL p (stepT l t p), A2, l.length + 1, c2, _, _, _, _, _, _, _, _, _, _, _, _, _, _, _, _, rfl, rfl, HP2.out.keep hx3, HOL.out, hn2, hn3, Ext.trans HX2.out hx3⟩
    focus
      have heq : orL p (stepT l t p) = p := of_decide_eq_true HRD.out
      have HRE := Lib.hid (H1.out heq)
      clear heq
      go_wp2_with (go_at_call 104; refine (plEqual (orL p (stepT l t p)) p _ _ _ _ _ _ _ (plv_rd HP2.out) (plv_rd HQ2.out) (by have := HN.out; have := HOL.out; omega) (by have := HN.out; have := HQL.out; omega) true HRD.out).mono ?_; rintro e w3 ⟨rfl, hx3⟩)
      simp only [Exit.jump]
      go_ret
      exact ⟨_, rfl, by rw [HRE.out]; exact HQ2.out.keep hx3, Ext.trans hx0.out (Ext.trans HX2.out hx3)⟩
  focus
    rintro g a' w' ⟨q, Aq, nq, cq, u4, u5, u6, u7, u8, u9, u10, u11, u12, u13, u14, u15, u16, u17, u18, u19, rfl, rfl, hq, hql, hqo, hqc, hxn⟩
    have HQ := Lib.hid hq
    have HQL := Lib.hid hql
    have HQO := Lib.hid hqo
    have HQC := Lib.hid hqc
    have HXN := Lib.hid hxn
    clear hq hql hqo hqc hxn HU HP HO HR
    obtain ⟨q0, q1, q2, q3, q4, q5, q6, q7⟩ := (HB.out.keep HXN.out).cells
    go_upto_region 3 with (first
      | (have := hx1; go_at_call 90; refine (mnOr q (stepT l t q) (by rw [HLEN.out q HQL.out, HQL.out]) (by rw [HQL.out]; omega) (by rw [HQL.out]; have := HN.out; omega) (.slice Aq (l.length + 1) cq) (.slice A1 (stepT l t q).length c1) _ (HQ.out.keep hx1) HP1.out).mono ?_; rintro e w2 ⟨r2, rfl, hp2, hx2⟩; obtain ⟨A2, c2, rfl, -, -, -⟩ := id hp2)
      | (go_at_call 76; refine (HST.out S _ (nodeC k m z s A n c) (.slice Aq (l.length + 1) cq) q (HV.out.keep HXN.out) HQ.out HQL.out).mono ?_; rintro e w1 ⟨r1, rfl, hp1, hx1⟩; obtain ⟨A1, c1, rfl, -, -, -⟩ := id hp1; have HP1 := Lib.hid hp1; clear hp1))
    clear q0 q1 q2 q3 q4 q5 q6 q7
    have HP2 := Lib.hid hp2
    have HX2 := Lib.hid (Ext.trans HXN.out (Ext.trans hx1 hx2))
    have HQ2 := Lib.hid ((HQ.out.keep hx1).keep hx2)
    clear hp2 hx1 hx2
    obtain ⟨h1, h2⟩ := closF_go (f := stepT l t) (by rw [HLEN.out q HQL.out, HQL.out]) HQO.out HQC.out
    have H1 := Lib.hid h1
    have H2 := Lib.hid h2
    clear h1 h2
    have hol : (orL q (stepT l t q)).length = l.length + 1 := by rw [orL_len (by rw [HLEN.out q HQL.out, HQL.out]), HQL.out]
    obtain ⟨r, hr⟩ : ∃ r, decide (orL q (stepT l t q) = q) = r := ⟨_, rfl⟩
    have HRD := Lib.hid hr
    have HOL := Lib.hid hol
    rw [hol] at HP2 ⊢
    clear hr hol
    cases r
    focus
      have hne : orL q (stepT l t q) ≠ q := of_decide_eq_false HRD.out
      have HNE := Lib.hid hne
      clear hne
      go_wp2_with (go_at_call 104; refine (plEqual (orL q (stepT l t q)) q _ _ _ _ _ _ _ (plv_rd HP2.out) (plv_rd HQ2.out) (by have := HN.out; have := HOL.out; omega) (by have := HN.out; have := HQL.out; omega) false HRD.out).mono ?_; rintro e w3 ⟨rfl, hx3⟩)
      go_step3
      obtain ⟨n', hn1, hn2, hn3⟩ := H2.out HNE.out
      simp only [Exit.then]
      refine jump_goto ?_
      exact ⟨n', hn1, orL q (stepT l t q), A2, l.length + 1, c2, _, _, _, _, _, _, _, _, _, _, _, _, _, _, _, _, rfl, rfl, HP2.out.keep hx3, HOL.out, hn2, hn3, Ext.trans HX2.out hx3⟩
    focus
      have heq : orL q (stepT l t q) = q := of_decide_eq_true HRD.out
      have HRE := Lib.hid (H1.out heq)
      clear heq
      go_wp2_with (go_at_call 104; refine (plEqual (orL q (stepT l t q)) q _ _ _ _ _ _ _ (plv_rd HP2.out) (plv_rd HQ2.out) (by have := HN.out; have := HOL.out; omega) (by have := HN.out; have := HQL.out; omega) true HRD.out).mono ?_; rintro e w3 ⟨rfl, hx3⟩)
      simp only [Exit.jump]
      go_ret
      exact ⟨_, rfl, by rw [HRE.out]; exact HQ2.out.keep hx3, Ext.trans hx0.out (Ext.trans HX2.out hx3)⟩
end Go.Proofs.YtmfdnjddggaeaaaDoor
