/-
  A region that draws its order, of which ONE operation (number z) writes what the others read: the law of XDag with two frames: F, which every other operation keeps, and E, which z keeps. Own text.
-/
import Derived.Test.YthjnbpfbhmfopaaDoorDag
namespace Go.Proofs.YthjnbpfbhmfopaaDoor
open Go.RowKit

/-- One operation, by itself: z comes before any other turning of the world; whoever z hangs on comes before z. -/
def OneOpS (P : Program) (ops : List Oper) (Q : Exit → Act → World → Prop) (E F : World → World → Prop) (z : Nat) (w0 : World) (Φ : Nat → Value → World → Prop) (a0 : Act) (i : Nat) (o : Oper) : Prop :=
  ∀ (a : Act) (w : World), E w0 w → ((i = z ∨ (ops[z]?).any (hangsOn · i) = true) → F w0 w) → a.tmps.size = a0.tmps.size → a.defers = a0.defers →
    (∀ t ∈ looksOf ops o, ∃ v, a.tmps[t]? = some v ∧ SrcOf ops Φ a0 i t v w) →
    wpList P ops.toArray (Exit.then (fun a' w' => ∃ v, a' = a.put o.dst v ∧ Φ i v w' ∧ (if i = z then E w w' else F w w')) Q) [o] a w

def allOpsS (P : Program) (ops : List Oper) (Q : Exit → Act → World → Prop) (E F : World → World → Prop) (z : Nat) (w0 : World) (Φ : Nat → Value → World → Prop) (a0 : Act) : Nat → List Oper → Prop
  | _, [] => True
  | i, o :: r => OneOpS P ops Q E F z w0 Φ a0 i o ∧ allOpsS P ops Q E F z w0 Φ a0 (i + 1) r

theorem allOpsS_get {P : Program} {ops : List Oper} {Q : Exit → Act → World → Prop} {E F : World → World → Prop} {z : Nat} {w0 : World} {Φ : Nat → Value → World → Prop} {a0 : Act} :
    ∀ (l : List Oper) (k : Nat), allOpsS P ops Q E F z w0 Φ a0 k l → ∀ j o, l[j]? = some o → OneOpS P ops Q E F z w0 Φ a0 (k + j) o := by
  intro l
  induction l with
  | nil => intro k _ j o h; simp at h
  | cons x l ih =>
    intro k h j o hj
    cases j with
    | zero => simp at hj; subst hj; exact h.1
    | succ j => have := ih (k + 1) h.2 j o (by simpa using hj); rwa [show k + 1 + j = k + (j + 1) by omega] at this

/-- The invariant: that of XDag under E, and F as long as z has not been. -/
structure DagInvS (ops : List Oper) (E F : World → World → Prop) (z : Nat) (w0 : World) (Φ : Nat → Value → World → Prop) (a0 : Act) (L : Array Bool) (a : Act) (w : World) : Prop where
  inv : DagInv ops E w0 Φ a0 L a w
  fine : L[z]? = some false → F w0 w

/-- Operations that come behind z: each hangs on z, or on one of them. -/
def lateOk (ops : List Oper) (z : Nat) (late : List Nat) : Bool := late.all fun i => ((ops[i]?).map fun o => hangsOn o z || late.any fun j => hangsOn o j).getD true

section
variable {P : Program} {ops : List Oper} {Q : Exit → Act → World → Prop} {E F : World → World → Prop} {z : Nat} {w0 : World} {Φ : Nat → Value → World → Prop} {a0 : Act} {N : Nat}

theorem dag_stepS (hok : dagOk N ops = true)
    {L : Array Bool} {a : Act} {w : World} (hI : DagInv ops E w0 Φ a0 L a w) {i : Nat} {o : Oper} (ho : ops[i]? = some o)
    (hshut : ∀ j, hangsOn o j = true → L[j]? = some true) {v : Value} {w' : World} (hv : Φ i v w') (hst : ∀ j u, j ≠ i → L[j]? = some true → Φ j u w → Φ j u w') (htr : E w0 w') :
    DagInv ops E w0 Φ a0 (L.setIfInBounds i true) (a.put o.dst v) w' := by
  have hlt : i < ops.length := (List.getElem?_eq_some_iff.1 ho).1
  have hput : ∀ t, (a.put o.dst v).tmps[t]? = if o.dst = some t ∧ t < a.tmps.size then some v else a.tmps[t]? := by
    intro t
    cases hd : o.dst with
    | none => simp [Act.put]
    | some d =>
      simp only [Act.put, Array.getElem?_setIfInBounds, Option.some.injEq]
      by_cases hdt : d = t
      · subst hdt
        by_cases hs : d < a.tmps.size
        · simp [hs]
        · simp [hs]
      · simp [hdt]
  have hLi : ∀ j, (L.setIfInBounds i true)[j]? = some true ↔ (j = i ∨ L[j]? = some true) := by
    intro j
    rw [Array.getElem?_setIfInBounds]
    by_cases hij : i = j
    · subst hij
      have : i < L.size := by rw [hI.len]; exact hlt
      simp [this]
    · simp [hij, Ne.symm hij]
  refine ⟨htr, ?_, ?_, by simp [hI.len], ?_, ?_, ?_⟩
  · cases hd : o.dst <;> simp [Act.put, hI.size]
  · cases hd : o.dst <;> simp [Act.put, hI.defers]
  · intro j x hx hj
    rcases (hLi j).1 hj with rfl | hj
    · rw [ho] at hx
      obtain rfl := Option.some.inj hx
      refine ⟨v, hv, fun d hd hds => ?_⟩
      rw [hput, if_pos ⟨hd, by rw [hI.size]; exact hds⟩]
    · obtain ⟨u, hu, hs⟩ := hI.done j x hx hj
      by_cases hji : j = i
      · subst hji
        rw [ho] at hx
        obtain rfl := Option.some.inj hx
        refine ⟨v, hv, fun d hd hds => ?_⟩
        rw [hput, if_pos ⟨hd, by rw [hI.size]; exact hds⟩]
      · refine ⟨u, hst _ _ hji hj hu, fun d hd hds => ?_⟩
        rw [hput, if_neg, hs d hd hds]
        rintro ⟨hod, _⟩
        have h1 := ((dagOk_at hok ho).2.1 d hod).1
        have h2 := ((dagOk_at hok hx).2.1 d hd).1
        rw [h1] at h2
        exact hji (Option.some.inj h2).symm
  · intro t ht
    rw [hput, if_neg, hI.rest t fun j x hx hj => ht j x hx ((hLi j).2 (.inr hj))]
    rintro ⟨hod, _⟩
    exact ht i o ho ((hLi i).2 (.inl rfl)) hod
  · intro j x hx hj k hk
    rw [hLi]
    rcases (hLi j).1 hj with rfl | hj
    · rw [ho] at hx
      obtain rfl := Option.some.inj hx
      exact .inr (hshut k hk)
    · exact .inr (hI.shut j x hx hj k hk)

theorem dag_late (hok : dagOk N ops = true) {L : Array Bool} {a : Act} {w : World} (hI : DagInv ops E w0 Φ a0 L a w) {late : List Nat} (hlate : lateOk ops z late = true) : ∀ i ∈ late, L[i]? = some true → L[z]? = some true := by
  intro i
  induction i using Nat.strongRecOn with
  | _ i ih =>
    intro hi hL
    have hlt : i < ops.length := by
      have := (Array.getElem?_eq_some_iff.1 hL).1
      rw [hI.len] at this; exact this
    have ho : ops[i]? = some ops[i] := List.getElem?_eq_getElem hlt
    have h := List.all_eq_true.1 hlate i hi
    rw [ho] at h
    simp only [Option.map_some, Option.getD_some, Bool.or_eq_true, List.any_eq_true] at h
    rcases h with h | ⟨j, hj, h⟩
    · exact hI.shut i _ ho hL z h
    · exact ih j ((dagOk_at hok ho).1 j h) hj (hI.shut i _ ho hL j h)

theorem dag_anyS (hok : dagOk N ops = true) (hN : a0.tmps.size = N) (hz : z < ops.length) (hst : ∀ i v w w', Φ i v w → F w w' → Φ i v w') {late : List Nat} (hlate : lateOk ops z late = true) (hst2 : ∀ i v w w', i ≠ z → i ∉ late → Φ i v w → E w w' → Φ i v w') (htr : ∀ w w', E w0 w → F w w' → E w0 w') (hff : ∀ w w', F w0 w → F w w' → F w0 w') (hfe : ∀ w w', F w0 w → E w w' → E w0 w')
    (hone : allOpsS P ops Q E F z w0 Φ a0 0 ops)
    (hend : ∀ a w, E w0 w → a.tmps.size = a0.tmps.size → a.defers = a0.defers → (∀ i o, ops[i]? = some o → ∃ v, Φ i v w ∧ ∀ d, o.dst = some d → a.tmps[d]? = some v) →
      (∀ t, writerOf ops t = none → a.tmps[t]? = a0.tmps[t]?) → Q .normal a w) :
    ∀ (n : Nat) (L : Array Bool) (a : Act) (w : World), DagInvS ops E F z w0 Φ a0 L a w → (L.toList.filter (· == false)).length ≤ n → wpAny P .any ops.toArray Q n L a w := by
  have fin : ∀ (L : Array Bool) (a : Act) (w : World), DagInvS ops E F z w0 Φ a0 L a w → Region.ready .any ops.toArray L = [] → Q .normal a w := by
    intro L a w hIS hr
    have hI := hIS.inv
    have hall := dag_ready_nil hok hI.len hr
    refine hend a w hI.ext hI.size hI.defers (fun i o ho => by
      obtain ⟨v, hv, hd⟩ := hI.done i o ho (hall i (List.getElem?_eq_some_iff.1 ho).1)
      exact ⟨v, hv, fun d hod => hd d hod (by rw [hN]; exact ((dagOk_at hok ho).2.1 d hod).2)⟩) fun t ht => hI.rest t fun i o ho _ => writerOf_none ht i o ho
  intro n
  induction n with
  | zero =>
    intro L a w hIS hn
    have hI := hIS.inv
    have hr : Region.ready .any ops.toArray L = [] := by
      cases hx : Region.ready .any ops.toArray L with
      | nil => rfl
      | cons x xs =>
        exfalso
        have hm : x ∈ Region.ready .any ops.toArray L := by rw [hx]; exact List.mem_cons_self
        unfold Region.ready at hm
        rw [List.mem_filter] at hm
        have hxl : x < L.size := by rw [hI.len]; simpa using hm.1
        have hf : L[x] = false := by
          have := hm.2
          simp [hxl] at this
          exact this.1
        have : false ∈ L.toList.filter (· == false) := by
          rw [List.mem_filter]
          exact ⟨by rw [← hf]; simp, rfl⟩
        have := List.length_pos_of_mem this
        omega
    exact ⟨hr, fin L a w hIS hr⟩
  | succ n ih =>
    intro L a w hIS hn
    have hI := hIS.inv
    refine ⟨fin L a w hIS, fun i hi => ?_⟩
    have hi' := hi
    unfold Region.ready at hi'
    rw [List.mem_filter] at hi'
    have hlt : i < ops.length := by simpa using hi'.1
    have hil : i < L.size := by rw [hI.len]; exact hlt
    have ho : ops[i]? = some ops[i] := List.getElem?_eq_getElem hlt
    have h2 := hi'.2
    rw [show ops.toArray[i]? = some ops[i] by simp [hlt]] at h2
    simp only [Option.map_some, Option.getD_some, Bool.and_eq_true] at h2
    have hf : L[i]? = some false := by
      have := h2.1
      simp [hil] at this
      simp [hil, this]
    have hshut : ∀ j, hangsOn ops[i] j = true → L[j]? = some true := by
      intro j hj
      unfold hangsOn at hj
      rw [Array.any_eq_true] at hj
      obtain ⟨k, hk, hkj⟩ := hj
      have := Array.all_eq_true.1 h2.2 k hk
      simp only [Bool.and_eq_true, beq_iff_eq] at hkj
      rw [hkj.2] at this
      simp only [Bool.not_true, Bool.false_or] at this
      rw [hkj.1] at this
      have hjl : j < L.size := by
        have := (dagOk_at hok ho).1 j (by unfold hangsOn; rw [Array.any_eq_true]; exact ⟨k, hk, by simp [hkj]⟩)
        omega
      simpa [hjl] using this
    have hcount : ((L.setIfInBounds i true).toList.filter (· == false)).length ≤ n := by
      have hc : ∀ (l : List Bool) (k : Nat), l[k]? = some false → ((l.set k true).filter (· == false)).length + 1 = (l.filter (· == false)).length := by
        intro l
        induction l with
        | nil => intro k h; simp at h
        | cons b l ih =>
          intro k h
          cases k with
          | zero => simp at h; subst h; simp
          | succ k =>
            have := ih k (by simpa using h)
            cases b <;> simp at this ⊢ <;> omega
      have h3 := hc L.toList i (by simpa using hf)
      rw [Array.toList_setIfInBounds]
      omega
    have h1 := allOpsS_get ops 0 hone i ops[i] ho
    rw [Nat.zero_add] at h1
    have hzf : i = z ∨ (ops[z]?).any (hangsOn · i) = true → L[z]? = some false := by
      rintro (rfl | hh)
      · exact hf
      · rw [List.getElem?_eq_getElem hz, Option.any_some] at hh
        have hzl : z < L.size := by rw [hI.len]; exact hz
        cases hb : L[z] with
        | false => simp [hzl, hb]
        | true =>
          have := hI.shut z ops[z] (List.getElem?_eq_getElem hz) (by simp [hzl, hb]) i hh
          rw [hf] at this
          cases this
    have h4 := h1 a w hI.ext (fun h => hIS.fine (hzf h)) hI.size hI.defers (dag_looks hok hN hI ho hf hshut)
    have hK : ∀ v w', Φ i v w' → (if i = z then E w w' else F w w') → wpAny P .any ops.toArray Q n (L.setIfInBounds i true) (a.put ops[i].dst v) w' := by
      intro v w' hv hS
      refine ih _ _ _ ⟨dag_stepS hok hI ho hshut hv (fun j u hj hjd hu => ?_) ?_, fun h => ?_⟩ hcount
      · by_cases hiz : i = z
        · rw [if_pos hiz] at hS
          exact hst2 _ _ _ _ (fun e => hj (e.trans hiz.symm)) (fun hl => by have h1 := dag_late hok hI hlate j hl hjd; rw [← hiz, hf] at h1; cases h1) hu hS
        · rw [if_neg hiz] at hS
          exact hst _ _ _ _ hu hS
      · by_cases hiz : i = z
        · rw [if_pos hiz] at hS
          exact hfe _ _ (hIS.fine (hzf (.inl hiz))) hS
        · rw [if_neg hiz] at hS
          exact htr _ _ hI.ext hS
      · by_cases hiz : i = z
        · subst hiz
          rw [Array.getElem?_setIfInBounds] at h
          simp [hil] at h
        · rw [if_neg hiz] at hS
          rw [Array.getElem?_setIfInBounds, if_neg hiz] at h
          exact hff _ _ (hIS.fine h) hS
    unfold wpOp
    rw [show ops.toArray[i]? = some ops[i] by simp [hlt]]
    simp only [wpList] at h4
    dsimp only
    have key : ∀ K' : Act → World → Prop, (∀ a' w', (∃ v, a' = a.put ops[i].dst v ∧ Φ i v w' ∧ (if i = z then E w w' else F w w')) → K' a' w') →
        Oper.wp P ops[i] a w (fun a' w' => ∃ v, a' = a.put ops[i].dst v ∧ Φ i v w' ∧ (if i = z then E w w' else F w w')) (Exit.then (fun a' w' => ∃ v, a' = a.put ops[i].dst v ∧ Φ i v w' ∧ (if i = z then E w w' else F w w')) Q) → Oper.wp P ops[i] a w K' Q := by
      intro K' hK' h
      unfold Oper.wp at *
      generalize (execOp a.eval ops[i]).run P w = r at *
      cases r with
      | ok x w' =>
        cases x <;> simp only [Oper.upon] at h ⊢ <;>
          first
            | exact hK' _ _ h
            | exact Calls.mono h (fun e w'' he => by
                cases e with
                | returned v => exact hK' _ _ he
                | panicked ch => exact he
                | outgrown => obtain ⟨x, y, hq⟩ := he; exact ⟨x, y, hq⟩)
            | exact Rows.mono h (fun _ _ he => hK' _ _ he)
      | halt x w' => cases x <;> simp only [Oper.upon] at h ⊢ <;> exact h
    split
    · rename_i hw
      rw [if_pos hw] at h4
      rcases h4 with h4 | ⟨h4, x, y, hq⟩
      · exact .inl (key _ (fun a' w' ⟨v, e, hv, hE⟩ => by rw [e]; exact hK v w' hv hE) h4)
      · exact .inr ⟨h4, x, y, hq⟩
    · rename_i hw
      rw [if_neg hw] at h4
      obtain ⟨v, e, hv, hE⟩ := h4
      rw [e]
      exact hK v w hv hE

/-- THE LAW, of a region of which operation z writes. -/
theorem wp_region_dagS {id : Nat} (hm : P.follows .mixedOrders = true) (N : Nat) (hN : a0.tmps.size = N) (hok : dagOk N ops = true) {w : World} (hz : z < ops.length)
    (hst : ∀ i v w w', Φ i v w → F w w' → Φ i v w') {late : List Nat} (hlate : lateOk ops z late = true) (hst2 : ∀ i v w w', i ≠ z → i ∉ late → Φ i v w → E w w' → Φ i v w') (hrf : F w0 { w with drawn := w.drawn + 1 }) (hre : E w0 { w with drawn := w.drawn + 1 })
    (htr : ∀ w w', E w0 w → F w w' → E w0 w') (hff : ∀ w w', F w0 w → F w w' → F w0 w') (hfe : ∀ w w', F w0 w → E w w' → E w0 w')
    (hone : allOpsS P ops Q E F z w0 Φ a0 0 ops)
    (hend : ∀ a w, E w0 w → a.tmps.size = a0.tmps.size → a.defers = a0.defers → (∀ i o, ops[i]? = some o → ∃ v, Φ i v w ∧ ∀ d, o.dst = some d → a.tmps[d]? = some v) →
      (∀ t, writerOf ops t = none → a.tmps[t]? = a0.tmps[t]?) → Q .normal a w) :
    (Code.region id ops.toArray true).wp P Q a0 w := by
  refine wp_region_any hm ?_
  refine dag_anyS hok hN hz hst hlate hst2 htr hff hfe hone hend _ _ _ _ ⟨⟨hre, rfl, rfl, by simp, ?_, ?_, ?_⟩, fun _ => hrf⟩ ?_
  · intro i o ho h; simp [Array.getElem?_replicate] at h
  · intro t _; rfl
  · intro i o ho h; simp [Array.getElem?_replicate] at h
  · simp
end
end Go.Proofs.YthjnbpfbhmfopaaDoor
