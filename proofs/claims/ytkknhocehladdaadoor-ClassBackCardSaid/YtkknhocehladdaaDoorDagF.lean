/-
  A region that draws its order: as XDag, but what an operation says may speak of the values at which it looked (f), so that a store can be tied to the block that its own region made. Own text.
-/
import Derived.Test.YtkknhocehladdaaDoorDag
namespace Go.Proofs.YtkknhocehladdaaDoor
open Go.RowKit

/-- The temporaries at which an operation looks that nobody writes later. -/
def earlyOf (ops : List Oper) (i : Nat) (o : Oper) : List Tmp := (looksOf ops o).filter fun t => match writerOf ops t with | none => true | some j => decide (j < i)

/-- What operation i finds in a temporary. -/
def SrcOfF (ops : List Oper) (Φ : Nat → (Tmp → Option Value) → Value → World → Prop) (a0 : Act) (i : Nat) (t : Tmp) (v : Value) (w : World) : Prop :=
  match writerOf ops t with
  | none => a0.tmps[t]? = some v
  | some j => if j < i then ∃ f, Φ j f v w else a0.tmps[t]? = some v

/-- One operation, by itself. -/
def OneOpF (P : Program) (ops : List Oper) (Q : Exit → Act → World → Prop) (E : World → World → Prop) (w0 : World) (Φ : Nat → (Tmp → Option Value) → Value → World → Prop) (a0 : Act) (i : Nat) (o : Oper) : Prop :=
  ∀ (a : Act) (w : World), E w0 w → a.tmps.size = a0.tmps.size → a.defers = a0.defers →
    (∀ t ∈ looksOf ops o, ∃ v, a.tmps[t]? = some v ∧ SrcOfF ops Φ a0 i t v w) →
    wpList P ops.toArray (Exit.then (fun a' w' => ∃ v, a' = a.put o.dst v ∧ Φ i (fun t => a.tmps[t]?) v w' ∧ E w w') Q) [o] a w

def allOpsF (P : Program) (ops : List Oper) (Q : Exit → Act → World → Prop) (E : World → World → Prop) (w0 : World) (Φ : Nat → (Tmp → Option Value) → Value → World → Prop) (a0 : Act) : Nat → List Oper → Prop
  | _, [] => True
  | i, o :: r => OneOpF P ops Q E w0 Φ a0 i o ∧ allOpsF P ops Q E w0 Φ a0 (i + 1) r

theorem allOps_getF {P : Program} {ops : List Oper} {Q : Exit → Act → World → Prop} {E : World → World → Prop} {w0 : World} {Φ : Nat → (Tmp → Option Value) → Value → World → Prop} {a0 : Act} :
    ∀ (l : List Oper) (k : Nat), allOpsF P ops Q E w0 Φ a0 k l → ∀ j o, l[j]? = some o → OneOpF P ops Q E w0 Φ a0 (k + j) o := by
  intro l
  induction l with
  | nil => intro k _ j o h; simp at h
  | cons x l ih =>
    intro k h j o hj
    cases j with
    | zero => simp at hj; subst hj; exact h.1
    | succ j => have := ih (k + 1) h.2 j o (by simpa using hj); rwa [show k + 1 + j = k + (j + 1) by omega] at this

structure DagInvF (ops : List Oper) (E : World → World → Prop) (w0 : World) (Φ : Nat → (Tmp → Option Value) → Value → World → Prop) (a0 : Act) (L : Array Bool) (a : Act) (w : World) : Prop where
  ext : E w0 w
  size : a.tmps.size = a0.tmps.size
  defers : a.defers = a0.defers
  len : L.size = ops.length
  done : ∀ (i : Nat) (o : Oper), ops[i]? = some o → L[i]? = some true → ∃ v f, Φ i f v w ∧ (∀ d, o.dst = some d → d < a0.tmps.size → a.tmps[d]? = some v) ∧ ∀ t ∈ earlyOf ops i o, a.tmps[t]? = f t
  rest : ∀ t : Tmp, (∀ (i : Nat) (o : Oper), ops[i]? = some o → L[i]? = some true → o.dst ≠ some t) → a.tmps[t]? = a0.tmps[t]?
  shut : ∀ (i : Nat) (o : Oper), ops[i]? = some o → L[i]? = some true → ∀ j, hangsOn o j = true → L[j]? = some true

section
variable {P : Program} {ops : List Oper} {Q : Exit → Act → World → Prop} {E : World → World → Prop} {w0 : World} {Φ : Nat → (Tmp → Option Value) → Value → World → Prop} {a0 : Act} {N : Nat}

theorem dag_stepF (hok : dagOk N ops = true) (hst : ∀ i f v w w', Φ i f v w → E w w' → Φ i f v w') (htr : ∀ w w', E w0 w → E w w' → E w0 w')
    {L : Array Bool} {a : Act} {w : World} (hI : DagInvF ops E w0 Φ a0 L a w) {i : Nat} {o : Oper} (ho : ops[i]? = some o)
    (hnot : L[i]? = some false) (hshut : ∀ j, hangsOn o j = true → L[j]? = some true) {v : Value} {w' : World} (hv : Φ i (fun t => a.tmps[t]?) v w') (hE : E w w') :
    DagInvF ops E w0 Φ a0 (L.setIfInBounds i true) (a.put o.dst v) w' := by
  have hlt : i < ops.length := (List.getElem?_eq_some_iff.1 ho).1
  have hput : ∀ t, (a.put o.dst v).tmps[t]? = if o.dst = some t ∧ t < a.tmps.size then some v else a.tmps[t]? := by
    intro t
    cases hd : o.dst with
    | none => simp [Act.put]
    | some d =>
      simp only [Act.put, Array.getElem?_setIfInBounds, Option.some.injEq]
      by_cases hdt : d = t
      · subst hdt
        by_cases hs : d < a.tmps.size
        · simp [hs]
        · simp [hs]
      · simp [hdt]
  have hLi : ∀ j, (L.setIfInBounds i true)[j]? = some true ↔ (j = i ∨ L[j]? = some true) := by
    intro j
    rw [Array.getElem?_setIfInBounds]
    by_cases hij : i = j
    · subst hij
      have : i < L.size := by rw [hI.len]; exact hlt
      simp [this]
    · simp [hij, Ne.symm hij]
  refine ⟨htr _ _ hI.ext hE, ?_, ?_, by simp [hI.len], ?_, ?_, ?_⟩
  · cases hd : o.dst <;> simp [Act.put, hI.size]
  · cases hd : o.dst <;> simp [Act.put, hI.defers]
  · intro j x hx hj
    have hear : ∀ t ∈ earlyOf ops j x, (L[j]? = some true ∨ j = i) → (a.put o.dst v).tmps[t]? = a.tmps[t]? := by
      intro t ht hd
      rw [hput, if_neg]
      rintro ⟨hod, _⟩
      unfold earlyOf at ht
      rw [List.mem_filter] at ht
      rw [((dagOk_at hok ho).2.1 t hod).1] at ht
      have hij : i < j := by simpa using ht.2
      rcases hd with hd | hd
      · rcases ((dagOk_at hok hx).2.2 t ht.1).2 i ((dagOk_at hok ho).2.1 t hod).1 with h | h
        · have := hI.shut _ _ hx hd i h.2
          rw [hnot] at this
          cases this
        · omega
      · omega
    rcases (hLi j).1 hj with rfl | hjL
    · rw [ho] at hx
      obtain rfl := Option.some.inj hx
      refine ⟨v, _, hv, fun d hd hds => ?_, fun t ht => hear t ht (.inr rfl)⟩
      rw [hput, if_pos ⟨hd, by rw [hI.size]; exact hds⟩]
    · obtain ⟨u, f, hu, hs, hf⟩ := hI.done j x hx hjL
      by_cases hji : j = i
      · subst hji
        rw [hnot] at hjL
        cases hjL
      · refine ⟨u, f, hst _ _ _ _ _ hu hE, fun d hd hds => ?_, fun t ht => (hear t ht (.inl hjL)).trans (hf t ht)⟩
        rw [hput, if_neg, hs d hd hds]
        rintro ⟨hod, _⟩
        have h1 := ((dagOk_at hok ho).2.1 d hod).1
        have h2 := ((dagOk_at hok hx).2.1 d hd).1
        rw [h1] at h2
        exact hji (Option.some.inj h2).symm
  · intro t ht
    rw [hput, if_neg, hI.rest t fun j x hx hj => ht j x hx ((hLi j).2 (.inr hj))]
    rintro ⟨hod, _⟩
    exact ht i o ho ((hLi i).2 (.inl rfl)) hod
  · intro j x hx hj k hk
    rw [hLi]
    rcases (hLi j).1 hj with rfl | hj
    · rw [ho] at hx
      obtain rfl := Option.some.inj hx
      exact .inr (hshut k hk)
    · exact .inr (hI.shut j x hx hj k hk)

theorem dag_looksF (hok : dagOk N ops = true) (hN : a0.tmps.size = N) {L : Array Bool} {a : Act} {w : World} (hI : DagInvF ops E w0 Φ a0 L a w) {i : Nat} {o : Oper} (ho : ops[i]? = some o)
    (hnot : L[i]? = some false) (hshut : ∀ j, hangsOn o j = true → L[j]? = some true) :
    ∀ t ∈ looksOf ops o, ∃ v, a.tmps[t]? = some v ∧ SrcOfF ops Φ a0 i t v w := by
  intro t ht
  have hts : t < a0.tmps.size := by rw [hN]; exact ((dagOk_at hok ho).2.2 t ht).1
  unfold SrcOfF
  cases hw : writerOf ops t with
  | none =>
    have h := hI.rest t fun j x hx _ => writerOf_none hw j x hx
    rw [h]
    exact ⟨_, Array.getElem?_eq_getElem hts, Array.getElem?_eq_getElem hts⟩
  | some j =>
    obtain ⟨x, hx, hd⟩ := writerOf_some hw
    rcases ((dagOk_at hok ho).2.2 t ht).2 j hw with ⟨hlt, hh⟩ | ⟨hlt, hh⟩
    · simp only [hlt, if_true]
      obtain ⟨v, f, hv, hs, _⟩ := hI.done j x hx (hshut j hh)
      exact ⟨v, hs t hd hts, f, hv⟩
    · simp only [show ¬ j < i by omega, if_false]
      have h := hI.rest t fun k y hy hk hkt => by
        have hk2 := ((dagOk_at hok hy).2.1 t hkt).1
        rw [hw] at hk2
        obtain rfl := Option.some.inj hk2
        have := hI.shut _ _ hx hk i (hh x hx)
        rw [hnot] at this
        cases this
      rw [h]
      exact ⟨_, Array.getElem?_eq_getElem hts, Array.getElem?_eq_getElem hts⟩

theorem dag_anyF (hok : dagOk N ops = true) (hN : a0.tmps.size = N) (hst : ∀ i f v w w', Φ i f v w → E w w' → Φ i f v w') (htr : ∀ w w', E w0 w → E w w' → E w0 w')
    (hone : allOpsF P ops Q E w0 Φ a0 0 ops)
    (hend : ∀ a w, E w0 w → a.tmps.size = a0.tmps.size → a.defers = a0.defers → (∀ i o, ops[i]? = some o → ∃ v f, Φ i f v w ∧ (∀ d, o.dst = some d → a.tmps[d]? = some v) ∧ ∀ t ∈ earlyOf ops i o, a.tmps[t]? = f t) →
      (∀ t, writerOf ops t = none → a.tmps[t]? = a0.tmps[t]?) → Q .normal a w) :
    ∀ (n : Nat) (L : Array Bool) (a : Act) (w : World), DagInvF ops E w0 Φ a0 L a w → (L.toList.filter (· == false)).length ≤ n → wpAny P .any ops.toArray Q n L a w := by
  have fin : ∀ (L : Array Bool) (a : Act) (w : World), DagInvF ops E w0 Φ a0 L a w → Region.ready .any ops.toArray L = [] → Q .normal a w := by
    intro L a w hI hr
    have hall := dag_ready_nil hok hI.len hr
    refine hend a w hI.ext hI.size hI.defers (fun i o ho => by
      obtain ⟨v, f, hv, hd, he⟩ := hI.done i o ho (hall i (List.getElem?_eq_some_iff.1 ho).1)
      exact ⟨v, f, hv, fun d hod => hd d hod (by rw [hN]; exact ((dagOk_at hok ho).2.1 d hod).2), he⟩) fun t ht => hI.rest t fun i o ho _ => writerOf_none ht i o ho
  intro n
  induction n with
  | zero =>
    intro L a w hI hn
    have hr : Region.ready .any ops.toArray L = [] := by
      cases hx : Region.ready .any ops.toArray L with
      | nil => rfl
      | cons x xs =>
        exfalso
        have hm : x ∈ Region.ready .any ops.toArray L := by rw [hx]; exact List.mem_cons_self
        unfold Region.ready at hm
        rw [List.mem_filter] at hm
        have hxl : x < L.size := by rw [hI.len]; simpa using hm.1
        have hf : L[x] = false := by
          have := hm.2
          simp [hxl] at this
          exact this.1
        have : false ∈ L.toList.filter (· == false) := by
          rw [List.mem_filter]
          exact ⟨by rw [← hf]; simp, rfl⟩
        have := List.length_pos_of_mem this
        omega
    exact ⟨hr, fin L a w hI hr⟩
  | succ n ih =>
    intro L a w hI hn
    refine ⟨fin L a w hI, fun i hi => ?_⟩
    have hi' := hi
    unfold Region.ready at hi'
    rw [List.mem_filter] at hi'
    have hlt : i < ops.length := by simpa using hi'.1
    have hil : i < L.size := by rw [hI.len]; exact hlt
    have ho : ops[i]? = some ops[i] := List.getElem?_eq_getElem hlt
    have h2 := hi'.2
    rw [show ops.toArray[i]? = some ops[i] by simp [hlt]] at h2
    simp only [Option.map_some, Option.getD_some, Bool.and_eq_true] at h2
    have hf : L[i]? = some false := by
      have := h2.1
      simp [hil] at this
      simp [hil, this]
    have hshut : ∀ j, hangsOn ops[i] j = true → L[j]? = some true := by
      intro j hj
      unfold hangsOn at hj
      rw [Array.any_eq_true] at hj
      obtain ⟨k, hk, hkj⟩ := hj
      have := Array.all_eq_true.1 h2.2 k hk
      simp only [Bool.and_eq_true, beq_iff_eq] at hkj
      rw [hkj.2] at this
      simp only [Bool.not_true, Bool.false_or] at this
      rw [hkj.1] at this
      have hjl : j < L.size := by
        have := (dagOk_at hok ho).1 j (by unfold hangsOn; rw [Array.any_eq_true]; exact ⟨k, hk, by simp [hkj]⟩)
        omega
      simpa [hjl] using this
    have hcount : ((L.setIfInBounds i true).toList.filter (· == false)).length ≤ n := by
      have hc : ∀ (l : List Bool) (k : Nat), l[k]? = some false → ((l.set k true).filter (· == false)).length + 1 = (l.filter (· == false)).length := by
        intro l
        induction l with
        | nil => intro k h; simp at h
        | cons b l ih =>
          intro k h
          cases k with
          | zero => simp at h; subst h; simp
          | succ k =>
            have := ih k (by simpa using h)
            cases b <;> simp at this ⊢ <;> omega
      have h3 := hc L.toList i (by simpa using hf)
      rw [Array.toList_setIfInBounds]
      omega
    have h1 := allOps_getF ops 0 hone i ops[i] ho
    rw [Nat.zero_add] at h1
    have h4 := h1 a w hI.ext hI.size hI.defers (dag_looksF hok hN hI ho hf hshut)
    have hK : ∀ v w', Φ i (fun t => a.tmps[t]?) v w' → E w w' → wpAny P .any ops.toArray Q n (L.setIfInBounds i true) (a.put ops[i].dst v) w' :=
      fun v w' hv hE => ih _ _ _ (dag_stepF hok hst htr hI ho hf hshut hv hE) hcount
    unfold wpOp
    rw [show ops.toArray[i]? = some ops[i] by simp [hlt]]
    simp only [wpList] at h4
    dsimp only
    have key : ∀ K' : Act → World → Prop, (∀ a' w', (∃ v, a' = a.put ops[i].dst v ∧ Φ i (fun t => a.tmps[t]?) v w' ∧ E w w') → K' a' w') →
        Oper.wp P ops[i] a w (fun a' w' => ∃ v, a' = a.put ops[i].dst v ∧ Φ i (fun t => a.tmps[t]?) v w' ∧ E w w') (Exit.then (fun a' w' => ∃ v, a' = a.put ops[i].dst v ∧ Φ i (fun t => a.tmps[t]?) v w' ∧ E w w') Q) → Oper.wp P ops[i] a w K' Q := by
      intro K' hK' h
      unfold Oper.wp at *
      generalize (execOp a.eval ops[i]).run P w = r at *
      cases r with
      | ok x w' =>
        cases x <;> simp only [Oper.upon] at h ⊢ <;>
          first
            | exact hK' _ _ h
            | exact Calls.mono h (fun e w'' he => by
                cases e with
                | returned v => exact hK' _ _ he
                | panicked ch => exact he
                | outgrown => obtain ⟨x, y, hq⟩ := he; exact ⟨x, y, hq⟩)
            | exact Rows.mono h (fun _ _ he => hK' _ _ he)
      | halt x w' => cases x <;> simp only [Oper.upon] at h ⊢ <;> exact h
    split
    · rename_i hw
      rw [if_pos hw] at h4
      rcases h4 with h4 | ⟨h4, x, y, hq⟩
      · exact .inl (key _ (fun a' w' ⟨v, e, hv, hE⟩ => by rw [e]; exact hK v w' hv hE) h4)
      · exact .inr ⟨h4, x, y, hq⟩
    · rename_i hw
      rw [if_neg hw] at h4
      obtain ⟨v, e, hv, hE⟩ := h4
      rw [e]
      exact hK v w hv hE

/-- THE LAW. -/
theorem wp_region_dagF {id : Nat} (hm : P.follows .mixedOrders = true) (N : Nat) (hN : a0.tmps.size = N) (hok : dagOk N ops = true) {w : World}
    (hst : ∀ i f v w w', Φ i f v w → E w w' → Φ i f v w') (hrf : E w0 { w with drawn := w.drawn + 1 }) (htr : ∀ w w', E w0 w → E w w' → E w0 w')
    (hone : allOpsF P ops Q E w0 Φ a0 0 ops)
    (hend : ∀ a w, E w0 w → a.tmps.size = a0.tmps.size → a.defers = a0.defers → (∀ i o, ops[i]? = some o → ∃ v f, Φ i f v w ∧ (∀ d, o.dst = some d → a.tmps[d]? = some v) ∧ ∀ t ∈ earlyOf ops i o, a.tmps[t]? = f t) →
      (∀ t, writerOf ops t = none → a.tmps[t]? = a0.tmps[t]?) → Q .normal a w) :
    (Code.region id ops.toArray true).wp P Q a0 w := by
  refine wp_region_any hm ?_
  refine dag_anyF hok hN hst htr hone hend _ _ _ _ ⟨hrf, rfl, rfl, by simp, ?_, ?_, ?_⟩ ?_
  · intro i o ho h; simp [Array.getElem?_replicate] at h
  · intro t _; rfl
  · intro i o ho h; simp [Array.getElem?_replicate] at h
  · simp
end
end Go.Proofs.YtkknhocehladdaaDoor
