/- Put together: Sm17, Sm18. -/
import Derived.Test.YtdhmfgaiomfodaaDoorUNsF
import Derived.Test.YtdhmfgaiomfodaaDoorUNsE
import Derived.Test.YtdhmfgaiomfodaaDoorUNgR
namespace Go.Proofs.YtdhmfgaiomfodaaDoor
open Go Go.RowKit
attribute [local irreducible] wd

theorem good_bare {i : Ins} {a lo hi : Int} (h : i.good a lo hi) : i.bareOK := by
  rcases h with ⟨a, b, d, e⟩ | ⟨a, _, _, d, e, f⟩ | ⟨a, _, _, _, _, e, f⟩ | ⟨a, b, d, _, _, f⟩
  · exact .inl ⟨a, b, d, e⟩
  · exact .inr (.inl ⟨a, d, e, f⟩)
  · exact .inr (.inr (.inl ⟨a, e, f⟩))
  · exact .inr (.inr (.inr (.inl ⟨a, b, d, f⟩)))
theorem progT_ok {t : T} (hr : (t.right 1 0).1 = true) (h : lenT t ≤ 399) (hg : t.groups ≤ 9) : ProgOK (progT t) t.groups := by
  have hR := progT_right hr h hg
  refine ⟨hR, fun i hi => ?_, ?_⟩
  · obtain ⟨pc, hpc⟩ := List.mem_iff_getElem?.1 hi
    have h1 := hR.op pc i hpc
    refine ⟨h1.1, h1.2.1, h1.2.2.1, h1.2.2.2.2.1, h1.2.2.2.1, h1.2.2.2.2.2.1, h1.2.2.2.2.2.2, ?_⟩
    rcases progT_get hr hpc with ⟨_, h2⟩ | ⟨_, rfl⟩
    · exact good_bare h2
    · exact .inr (.inr (.inr (.inr ⟨rfl, rfl, rfl, rfl, rfl⟩)))
  · have hl := progT_len t
    rw [hl, Nat.add_sub_cancel]
    unfold progT
    rw [List.getElem?_append_right (by rw [codeT_len]; omega), codeT_len, Nat.sub_self]
    rfl
/-- May a tree be compiled? -/
def compB (t : T) : Bool := (t.right 1 0).1 && decide (t.groups ≤ 9)
/-- What Compile answers. -/
def CompR (E : Nat → Addr) (t : T) (w : World) (e : Ending) (w' : World) : Prop :=
  Ext w w' ∧ if compB t = true then ∃ A c, e = .returned (.tuple #[.agg #[.slice A (progT t).length c, .int .i64 (t.groups : Nat)], .nilIface]) ∧ Rd w' 8 A (progT t).length (codeV (progT t)) ∧ ProgOK (progT t) t.groups
    else e = .returned (.tuple #[.agg #[.slice none 0 0, .int .i64 0], errV E (if (t.right 1 0).1 = true then 1 else 4)])
theorem nfCompileAny (E : Nat → Addr) (t : T) (hs : t.size ≤ 100) (S : Nat → Prop) (w : World) (nv : List Value) (hv : NodeV S w t nv) (hE : Env E w) :
    Calls Tryd.prog 12 #[.agg nv.toArray] w fun e w' => CompR E t w e w' := by
  cases hc : compB t
  · refine (nfCompileBad E t ?_ hs S w nv hv hE).mono fun e w' h => ⟨h.2, ?_⟩
    · unfold compB at hc
      rcases Bool.and_eq_false_iff.1 hc with h | h
      · exact .inl h
      · cases hr : (t.right 1 0).1
        · exact .inl rfl
        · exact .inr ⟨rfl, by have := of_decide_eq_false h; omega⟩
    · rw [hc]
      exact h.1
  · unfold compB at hc
    obtain ⟨hr, hg⟩ := Bool.and_eq_true_iff.1 hc
    have hg' := of_decide_eq_true hg
    have hlt := lenT_le t (right_good t 1 0 hr)
    refine (nfCompile t hr hg' hs S w nv hv).mono fun e w' h => ⟨h.1, ?_⟩
    rw [if_pos (show compB t = true by unfold compB; exact hc)]
    obtain ⟨A, c, h1, h2, _, _, _⟩ := h.2
    exact ⟨A, c, h1, h2, progT_ok hr (by omega) hg'⟩

end Go.Proofs.YtdhmfgaiomfodaaDoor
namespace Go.Proofs.YtdhmfgaiomfodaaDoor
open Go Go.RowKit
attribute [local irreducible] wd

/-- What Compile and Find answer of a tree that may be compiled. -/
theorem compR_pos {E : Nat → Addr} {t : T} {w w' : World} {e : Ending} (h : CompR E t w e w') (hc : compB t = true) : Ext w w' ∧ ∃ A c, e = .returned (.tuple #[.agg #[.slice A (progT t).length c, .int .i64 (t.groups : Nat)], .nilIface]) ∧ Rd w' 8 A (progT t).length (codeV (progT t)) ∧ ProgOK (progT t) t.groups := by
  have := h.2
  rw [if_pos hc] at this
  exact ⟨h.1, this⟩
end Go.Proofs.YtdhmfgaiomfodaaDoor
