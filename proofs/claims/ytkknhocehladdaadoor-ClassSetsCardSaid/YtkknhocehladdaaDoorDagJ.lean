/-
  A region that draws its order, with one more fact that is told by which operations have been (J): for regions that allot several blocks of one type and fill them. Own text (XDag's law, with J).
-/
import Derived.Test.YtkknhocehladdaaDoorDag
namespace Go.Proofs.YtkknhocehladdaaDoor
open Go.RowKit

/-- One operation, by itself: it is ready and has not been; what the flags tell holds ahead of it, and behind it with its own flag. -/
def OneOpJ (P : Program) (ops : List Oper) (Q : Exit → Act → World → Prop) (E : World → World → Prop) (J : Array Bool → Act → World → Prop) (w0 : World) (Φ : Nat → Value → World → Prop) (a0 : Act) (i : Nat) (o : Oper) : Prop :=
  ∀ (L : Array Bool) (a : Act) (w : World), E w0 w → J L a w → L.size = ops.length → L[i]? = some false → (∀ j, hangsOn o j = true → L[j]? = some true) → a.tmps.size = a0.tmps.size → a.defers = a0.defers →
    (∀ t ∈ looksOf ops o, ∃ v, a.tmps[t]? = some v ∧ SrcOf ops Φ a0 i t v w) →
    wpList P ops.toArray (Exit.then (fun a' w' => ∃ v, a' = a.put o.dst v ∧ Φ i v w' ∧ E w w' ∧ J (L.setIfInBounds i true) a' w') Q) [o] a w

def allOpsJ (P : Program) (ops : List Oper) (Q : Exit → Act → World → Prop) (E : World → World → Prop) (J : Array Bool → Act → World → Prop) (w0 : World) (Φ : Nat → Value → World → Prop) (a0 : Act) : Nat → List Oper → Prop
  | _, [] => True
  | i, o :: r => OneOpJ P ops Q E J w0 Φ a0 i o ∧ allOpsJ P ops Q E J w0 Φ a0 (i + 1) r

theorem allOpsJ_get {P : Program} {ops : List Oper} {Q : Exit → Act → World → Prop} {E : World → World → Prop} {J : Array Bool → Act → World → Prop} {w0 : World} {Φ : Nat → Value → World → Prop} {a0 : Act} :
    ∀ (l : List Oper) (k : Nat), allOpsJ P ops Q E J w0 Φ a0 k l → ∀ j o, l[j]? = some o → OneOpJ P ops Q E J w0 Φ a0 (k + j) o := by
  intro l
  induction l with
  | nil => intro k _ j o h; simp at h
  | cons x l ih =>
    intro k h j o hj
    cases j with
    | zero => simp at hj; subst hj; exact h.1
    | succ j => have := ih (k + 1) h.2 j o (by simpa using hj); rwa [show k + 1 + j = k + (j + 1) by omega] at this

section
variable {P : Program} {ops : List Oper} {Q : Exit → Act → World → Prop} {E : World → World → Prop} {J : Array Bool → Act → World → Prop} {w0 : World} {Φ : Nat → Value → World → Prop} {a0 : Act} {N : Nat}

theorem dag_anyJ (hok : dagOk N ops = true) (hN : a0.tmps.size = N) (hst : ∀ i v w w', Φ i v w → E w w' → Φ i v w') (htr : ∀ w w', E w0 w → E w w' → E w0 w')
    (hone : allOpsJ P ops Q E J w0 Φ a0 0 ops)
    (hend : ∀ L a w, J L a w → (∀ i, i < ops.length → L[i]? = some true) → E w0 w → a.tmps.size = a0.tmps.size → a.defers = a0.defers → (∀ i o, ops[i]? = some o → ∃ v, Φ i v w ∧ ∀ d, o.dst = some d → a.tmps[d]? = some v) →
      (∀ t, writerOf ops t = none → a.tmps[t]? = a0.tmps[t]?) → Q .normal a w) :
    ∀ (n : Nat) (L : Array Bool) (a : Act) (w : World), DagInv ops E w0 Φ a0 L a w → J L a w → (L.toList.filter (· == false)).length ≤ n → wpAny P .any ops.toArray Q n L a w := by
  have fin : ∀ (L : Array Bool) (a : Act) (w : World), DagInv ops E w0 Φ a0 L a w → J L a w → Region.ready .any ops.toArray L = [] → Q .normal a w := by
    intro L a w hI hJ hr
    have hall := dag_ready_nil hok hI.len hr
    refine hend L a w hJ hall hI.ext hI.size hI.defers (fun i o ho => by
      obtain ⟨v, hv, hd⟩ := hI.done i o ho (hall i (List.getElem?_eq_some_iff.1 ho).1)
      exact ⟨v, hv, fun d hod => hd d hod (by rw [hN]; exact ((dagOk_at hok ho).2.1 d hod).2)⟩) fun t ht => hI.rest t fun i o ho _ => writerOf_none ht i o ho
  intro n
  induction n with
  | zero =>
    intro L a w hI hJ hn
    have hr : Region.ready .any ops.toArray L = [] := by
      cases hx : Region.ready .any ops.toArray L with
      | nil => rfl
      | cons x xs =>
        exfalso
        have hm : x ∈ Region.ready .any ops.toArray L := by rw [hx]; exact List.mem_cons_self
        unfold Region.ready at hm
        rw [List.mem_filter] at hm
        have hxl : x < L.size := by rw [hI.len]; simpa using hm.1
        have hf : L[x] = false := by
          have := hm.2
          simp [hxl] at this
          exact this.1
        have : false ∈ L.toList.filter (· == false) := by
          rw [List.mem_filter]
          exact ⟨by rw [← hf]; simp, rfl⟩
        have := List.length_pos_of_mem this
        omega
    exact ⟨hr, fin L a w hI hJ hr⟩
  | succ n ih =>
    intro L a w hI hJ hn
    refine ⟨fin L a w hI hJ, fun i hi => ?_⟩
    have hi' := hi
    unfold Region.ready at hi'
    rw [List.mem_filter] at hi'
    have hlt : i < ops.length := by simpa using hi'.1
    have hil : i < L.size := by rw [hI.len]; exact hlt
    have ho : ops[i]? = some ops[i] := List.getElem?_eq_getElem hlt
    have h2 := hi'.2
    rw [show ops.toArray[i]? = some ops[i] by simp [hlt]] at h2
    simp only [Option.map_some, Option.getD_some, Bool.and_eq_true] at h2
    have hf : L[i]? = some false := by
      have := h2.1
      simp [hil] at this
      simp [hil, this]
    have hshut : ∀ j, hangsOn ops[i] j = true → L[j]? = some true := by
      intro j hj
      unfold hangsOn at hj
      rw [Array.any_eq_true] at hj
      obtain ⟨k, hk, hkj⟩ := hj
      have := Array.all_eq_true.1 h2.2 k hk
      simp only [Bool.and_eq_true, beq_iff_eq] at hkj
      rw [hkj.2] at this
      simp only [Bool.not_true, Bool.false_or] at this
      rw [hkj.1] at this
      have hjl : j < L.size := by
        have := (dagOk_at hok ho).1 j (by unfold hangsOn; rw [Array.any_eq_true]; exact ⟨k, hk, by simp [hkj]⟩)
        omega
      simpa [hjl] using this
    have hcount : ((L.setIfInBounds i true).toList.filter (· == false)).length ≤ n := by
      have hc : ∀ (l : List Bool) (k : Nat), l[k]? = some false → ((l.set k true).filter (· == false)).length + 1 = (l.filter (· == false)).length := by
        intro l
        induction l with
        | nil => intro k h; simp at h
        | cons b l ih =>
          intro k h
          cases k with
          | zero => simp at h; subst h; simp
          | succ k =>
            have := ih k (by simpa using h)
            cases b <;> simp at this ⊢ <;> omega
      have h3 := hc L.toList i (by simpa using hf)
      rw [Array.toList_setIfInBounds]
      omega
    have h1 := allOpsJ_get ops 0 hone i ops[i] ho
    rw [Nat.zero_add] at h1
    have h4 := h1 L a w hI.ext hJ hI.len hf hshut hI.size hI.defers (dag_looks hok hN hI ho hf hshut)
    have hK : ∀ v w', Φ i v w' → E w w' → J (L.setIfInBounds i true) (a.put ops[i].dst v) w' → wpAny P .any ops.toArray Q n (L.setIfInBounds i true) (a.put ops[i].dst v) w' :=
      fun v w' hv hE hj => ih _ _ _ (dag_step hok hst htr hI ho hshut hv hE) hj hcount
    unfold wpOp
    rw [show ops.toArray[i]? = some ops[i] by simp [hlt]]
    simp only [wpList] at h4
    dsimp only
    have key : ∀ K' : Act → World → Prop, (∀ a' w', (∃ v, a' = a.put ops[i].dst v ∧ Φ i v w' ∧ E w w' ∧ J (L.setIfInBounds i true) a' w') → K' a' w') →
        Oper.wp P ops[i] a w (fun a' w' => ∃ v, a' = a.put ops[i].dst v ∧ Φ i v w' ∧ E w w' ∧ J (L.setIfInBounds i true) a' w') (Exit.then (fun a' w' => ∃ v, a' = a.put ops[i].dst v ∧ Φ i v w' ∧ E w w' ∧ J (L.setIfInBounds i true) a' w') Q) → Oper.wp P ops[i] a w K' Q := by
      intro K' hK' h
      unfold Oper.wp at *
      generalize (execOp a.eval ops[i]).run P w = r at *
      cases r with
      | ok x w' =>
        cases x <;> simp only [Oper.upon] at h ⊢ <;>
          first
            | exact hK' _ _ h
            | exact Calls.mono h (fun e w'' he => by
                cases e with
                | returned v => exact hK' _ _ he
                | panicked ch => exact he
                | outgrown => obtain ⟨x, y, hq⟩ := he; exact ⟨x, y, hq⟩)
            | exact Rows.mono h (fun _ _ he => hK' _ _ he)
      | halt x w' => cases x <;> simp only [Oper.upon] at h ⊢ <;> exact h
    split
    · rename_i hw
      rw [if_pos hw] at h4
      rcases h4 with h4 | ⟨h4, x, y, hq⟩
      · exact .inl (key _ (fun a' w' ⟨v, e, hv, hE, hj⟩ => by rw [e] at hj ⊢; exact hK v w' hv hE hj) h4)
      · exact .inr ⟨h4, x, y, hq⟩
    · rename_i hw
      rw [if_neg hw] at h4
      obtain ⟨v, e, hv, hE, hj⟩ := h4
      rw [e] at hj ⊢
      exact hK v w hv hE hj

/-- THE LAW. -/
theorem wp_region_dagJ {id : Nat} (hm : P.follows .mixedOrders = true) (N : Nat) (hN : a0.tmps.size = N) (hok : dagOk N ops = true) {w : World}
    (hst : ∀ i v w w', Φ i v w → E w w' → Φ i v w') (hj0 : J (Array.replicate ops.length false) a0 { w with drawn := w.drawn + 1 }) (hrf : E w0 { w with drawn := w.drawn + 1 }) (htr : ∀ w w', E w0 w → E w w' → E w0 w')
    (hone : allOpsJ P ops Q E J w0 Φ a0 0 ops)
    (hend : ∀ L a w, J L a w → (∀ i, i < ops.length → L[i]? = some true) → E w0 w → a.tmps.size = a0.tmps.size → a.defers = a0.defers → (∀ i o, ops[i]? = some o → ∃ v, Φ i v w ∧ ∀ d, o.dst = some d → a.tmps[d]? = some v) →
      (∀ t, writerOf ops t = none → a.tmps[t]? = a0.tmps[t]?) → Q .normal a w) :
    (Code.region id ops.toArray true).wp P Q a0 w := by
  refine wp_region_any hm ?_
  refine dag_anyJ hok hN hst htr hone hend _ _ _ _ ⟨hrf, rfl, rfl, by simp, ?_, ?_, ?_⟩ (by simpa using hj0) ?_
  · intro i o ho h; simp [Array.getElem?_replicate] at h
  · intro t _; rfl
  · intro i o ho h; simp [Array.getElem?_replicate] at h
  · simp
end
end Go.Proofs.YtkknhocehladdaaDoor
