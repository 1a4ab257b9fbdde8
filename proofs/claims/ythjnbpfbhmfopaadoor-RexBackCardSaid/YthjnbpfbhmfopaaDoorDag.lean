/-
  A region that draws its order, whatever its operations are: each operation by itself, under what the operations say on which it hangs; what an operation has said must stay true behind the others. Own text.
-/
import Derived.Test.YthjnbpfbhmfopaaDoorBase
namespace Go.Proofs.YthjnbpfbhmfopaaDoor
open Go.RowKit

/-- The temporaries at which an operation looks: its operands, and its guard's. -/
def looksOf (ops : List Oper) (o : Oper) : List Tmp :=
  (o.op.operands.toList.filterMap fun | .tmp t => some t | _ => none) ++
  (match o.guard with
   | some (g, _) => ((ops[g]?).bind (·.dst)).toList
   | none => [])
/-- Which operation writes a temporary. -/
def writerOf (ops : List Oper) (t : Tmp) : Option Nat := ops.findIdx? fun o => o.dst == some t
def hangsOn (o : Oper) (j : Nat) : Bool := o.after.any fun e => e.on == j && Region.binds .any e
/-- What the law asks of a region by text alone: edges lead back; no two operations write one temporary; who looks at one hangs on its writer, or its writer hangs on him. -/
def dagOk (N : Nat) (ops : List Oper) : Bool :=
  (List.range ops.length).all fun i =>
    match ops[i]? with
    | none => false
    | some o =>
      (o.after.all fun e => !Region.binds .any e || decide (e.on < i)) &&
      (match o.dst with
       | some d => writerOf ops d == some i && decide (d < N)
       | none => true) &&
      ((looksOf ops o).all fun t => decide (t < N) &&
        match writerOf ops t with
        | none => true
        | some j => (decide (j < i) && hangsOn o j) || (decide (i < j) && ((ops[j]?).map (hangsOn · i)).getD false))

/-- What operation i finds in a temporary. -/
def SrcOf (ops : List Oper) (Φ : Nat → Value → World → Prop) (a0 : Act) (i : Nat) (t : Tmp) (v : Value) (w : World) : Prop :=
  match writerOf ops t with
  | none => a0.tmps[t]? = some v
  | some j => if j < i then Φ j v w else a0.tmps[t]? = some v

/-- One operation, by itself. -/
def OneOp (P : Program) (ops : List Oper) (Q : Exit → Act → World → Prop) (E : World → World → Prop) (w0 : World) (Φ : Nat → Value → World → Prop) (a0 : Act) (i : Nat) (o : Oper) : Prop :=
  ∀ (a : Act) (w : World), E w0 w → a.tmps.size = a0.tmps.size → a.defers = a0.defers →
    (∀ t ∈ looksOf ops o, ∃ v, a.tmps[t]? = some v ∧ SrcOf ops Φ a0 i t v w) →
    wpList P ops.toArray (Exit.then (fun a' w' => ∃ v, a' = a.put o.dst v ∧ Φ i v w' ∧ E w w') Q) [o] a w

def allOps (P : Program) (ops : List Oper) (Q : Exit → Act → World → Prop) (E : World → World → Prop) (w0 : World) (Φ : Nat → Value → World → Prop) (a0 : Act) : Nat → List Oper → Prop
  | _, [] => True
  | i, o :: r => OneOp P ops Q E w0 Φ a0 i o ∧ allOps P ops Q E w0 Φ a0 (i + 1) r

theorem allOps_get {P : Program} {ops : List Oper} {Q : Exit → Act → World → Prop} {E : World → World → Prop} {w0 : World} {Φ : Nat → Value → World → Prop} {a0 : Act} :
    ∀ (l : List Oper) (k : Nat), allOps P ops Q E w0 Φ a0 k l → ∀ j o, l[j]? = some o → OneOp P ops Q E w0 Φ a0 (k + j) o := by
  intro l
  induction l with
  | nil => intro k _ j o h; simp at h
  | cons x l ih =>
    intro k h j o hj
    cases j with
    | zero => simp at hj; subst hj; exact h.1
    | succ j => have := ih (k + 1) h.2 j o (by simpa using hj); rwa [show k + 1 + j = k + (j + 1) by omega] at this

structure DagInv (ops : List Oper) (E : World → World → Prop) (w0 : World) (Φ : Nat → Value → World → Prop) (a0 : Act) (L : Array Bool) (a : Act) (w : World) : Prop where
  ext : E w0 w
  size : a.tmps.size = a0.tmps.size
  defers : a.defers = a0.defers
  len : L.size = ops.length
  done : ∀ (i : Nat) (o : Oper), ops[i]? = some o → L[i]? = some true → ∃ v, Φ i v w ∧ ∀ d, o.dst = some d → d < a0.tmps.size → a.tmps[d]? = some v
  rest : ∀ t : Tmp, (∀ (i : Nat) (o : Oper), ops[i]? = some o → L[i]? = some true → o.dst ≠ some t) → a.tmps[t]? = a0.tmps[t]?
  shut : ∀ (i : Nat) (o : Oper), ops[i]? = some o → L[i]? = some true → ∀ j, hangsOn o j = true → L[j]? = some true

theorem writerOf_some {ops : List Oper} {t : Tmp} {j : Nat} (h : writerOf ops t = some j) : ∃ o, ops[j]? = some o ∧ o.dst = some t := by
  unfold writerOf at h
  obtain ⟨hj, hp, _⟩ := List.findIdx?_eq_some_iff_getElem.1 h
  exact ⟨ops[j], List.getElem?_eq_getElem hj, by simpa using hp⟩
theorem writerOf_none {ops : List Oper} {t : Tmp} (h : writerOf ops t = none) : ∀ (j : Nat) (o : Oper), ops[j]? = some o → o.dst ≠ some t := by
  intro j o hj hd
  unfold writerOf at h
  rw [List.findIdx?_eq_none_iff] at h
  have := h o (List.mem_of_getElem? hj)
  simp [hd] at this

section
variable {P : Program} {ops : List Oper} {Q : Exit → Act → World → Prop} {E : World → World → Prop} {w0 : World} {Φ : Nat → Value → World → Prop} {a0 : Act} {N : Nat}

theorem dagOk_at (h : dagOk N ops = true) {i : Nat} {o : Oper} (hi : ops[i]? = some o) :
    (∀ j, hangsOn o j = true → j < i) ∧ (∀ d, o.dst = some d → writerOf ops d = some i ∧ d < N) ∧
    (∀ t ∈ looksOf ops o, t < N ∧ ∀ j, writerOf ops t = some j → (j < i ∧ hangsOn o j = true) ∨ (i < j ∧ ∀ x, ops[j]? = some x → hangsOn x i = true)) := by
  have hlt : i < ops.length := (List.getElem?_eq_some_iff.1 hi).1
  have h1 := List.all_eq_true.1 h i (List.mem_range.2 hlt)
  rw [hi] at h1
  simp only [Bool.and_eq_true] at h1
  obtain ⟨⟨h1, h2⟩, h3⟩ := h1
  refine ⟨fun j hj => ?_, fun d hd => ?_, fun t ht => ?_⟩
  · unfold hangsOn at hj
    rw [Array.any_eq_true] at hj
    obtain ⟨k, hk, hkj⟩ := hj
    rw [Array.all_eq_true] at h1
    have := h1 k hk
    simp only [Bool.and_eq_true, beq_iff_eq] at hkj
    simp [hkj.2] at this
    omega
  · rw [hd] at h2; simpa using h2
  · have := List.all_eq_true.1 h3 t ht
    rw [Bool.and_eq_true, decide_eq_true_eq] at this
    refine ⟨this.1, fun j hj => ?_⟩
    replace this := this.2
    rw [hj] at this
    simp only [Bool.or_eq_true, Bool.and_eq_true, decide_eq_true_eq] at this
    rcases this with h | ⟨h, h'⟩
    · exact .inl h
    · refine .inr ⟨h, fun x hx => ?_⟩
      rw [hx] at h'; simpa using h'

theorem dag_ready_nil (hok : dagOk N ops = true) {L : Array Bool} (hL : L.size = ops.length) (h : Region.ready .any ops.toArray L = []) : ∀ i, i < ops.length → L[i]? = some true := by
  intro i
  induction i using Nat.strongRecOn with
  | _ i ih =>
    intro hi
    rcases hl : L[i]? with _ | b
    · have := Array.getElem?_eq_none_iff.1 hl; omega
    · cases b with
      | true => rfl
      | false =>
        exfalso
        have hmem : i ∈ Region.ready .any ops.toArray L := by
          unfold Region.ready
          rw [List.mem_filter]
          refine ⟨by simp [hi], ?_⟩
          have ho : ops.toArray[i]? = some ops[i] := by simp [hi]
          have hl' : L.getD i true = false := by simp [hl]
          rw [ho, hl']
          simp only [Bool.not_false, Bool.true_and, Option.map_some, Option.getD_some]
          rw [Array.all_eq_true]
          intro k hk
          by_cases hb : Region.binds .any (ops[i].after[k]) = true
          · have hlt := (dagOk_at hok (i := i) (o := ops[i]) (by simp [hi])).1 (ops[i].after[k]).on (by
              unfold hangsOn; rw [Array.any_eq_true]; exact ⟨k, hk, by simp [hb]⟩)
            have := ih _ hlt (by omega)
            simp [this]
          · simp [hb]
        rw [h] at hmem
        cases hmem

theorem dag_step (hok : dagOk N ops = true) (hst : ∀ i v w w', Φ i v w → E w w' → Φ i v w') (htr : ∀ w w', E w0 w → E w w' → E w0 w')
    {L : Array Bool} {a : Act} {w : World} (hI : DagInv ops E w0 Φ a0 L a w) {i : Nat} {o : Oper} (ho : ops[i]? = some o)
    (hshut : ∀ j, hangsOn o j = true → L[j]? = some true) {v : Value} {w' : World} (hv : Φ i v w') (hE : E w w') :
    DagInv ops E w0 Φ a0 (L.setIfInBounds i true) (a.put o.dst v) w' := by
  have hlt : i < ops.length := (List.getElem?_eq_some_iff.1 ho).1
  have hput : ∀ t, (a.put o.dst v).tmps[t]? = if o.dst = some t ∧ t < a.tmps.size then some v else a.tmps[t]? := by
    intro t
    cases hd : o.dst with
    | none => simp [Act.put]
    | some d =>
      simp only [Act.put, Array.getElem?_setIfInBounds, Option.some.injEq]
      by_cases hdt : d = t
      · subst hdt
        by_cases hs : d < a.tmps.size
        · simp [hs]
        · simp [hs]
      · simp [hdt]
  have hLi : ∀ j, (L.setIfInBounds i true)[j]? = some true ↔ (j = i ∨ L[j]? = some true) := by
    intro j
    rw [Array.getElem?_setIfInBounds]
    by_cases hij : i = j
    · subst hij
      have : i < L.size := by rw [hI.len]; exact hlt
      simp [this]
    · simp [hij, Ne.symm hij]
  refine ⟨htr _ _ hI.ext hE, ?_, ?_, by simp [hI.len], ?_, ?_, ?_⟩
  · cases hd : o.dst <;> simp [Act.put, hI.size]
  · cases hd : o.dst <;> simp [Act.put, hI.defers]
  · intro j x hx hj
    rcases (hLi j).1 hj with rfl | hj
    · rw [ho] at hx
      obtain rfl := Option.some.inj hx
      refine ⟨v, hv, fun d hd hds => ?_⟩
      rw [hput, if_pos ⟨hd, by rw [hI.size]; exact hds⟩]
    · obtain ⟨u, hu, hs⟩ := hI.done j x hx hj
      by_cases hji : j = i
      · subst hji
        rw [ho] at hx
        obtain rfl := Option.some.inj hx
        refine ⟨v, hv, fun d hd hds => ?_⟩
        rw [hput, if_pos ⟨hd, by rw [hI.size]; exact hds⟩]
      · refine ⟨u, hst _ _ _ _ hu hE, fun d hd hds => ?_⟩
        rw [hput, if_neg, hs d hd hds]
        rintro ⟨hod, _⟩
        have h1 := ((dagOk_at hok ho).2.1 d hod).1
        have h2 := ((dagOk_at hok hx).2.1 d hd).1
        rw [h1] at h2
        exact hji (Option.some.inj h2).symm
  · intro t ht
    rw [hput, if_neg, hI.rest t fun j x hx hj => ht j x hx ((hLi j).2 (.inr hj))]
    rintro ⟨hod, _⟩
    exact ht i o ho ((hLi i).2 (.inl rfl)) hod
  · intro j x hx hj k hk
    rw [hLi]
    rcases (hLi j).1 hj with rfl | hj
    · rw [ho] at hx
      obtain rfl := Option.some.inj hx
      exact .inr (hshut k hk)
    · exact .inr (hI.shut j x hx hj k hk)

theorem dag_looks (hok : dagOk N ops = true) (hN : a0.tmps.size = N) {L : Array Bool} {a : Act} {w : World} (hI : DagInv ops E w0 Φ a0 L a w) {i : Nat} {o : Oper} (ho : ops[i]? = some o)
    (hnot : L[i]? = some false) (hshut : ∀ j, hangsOn o j = true → L[j]? = some true) :
    ∀ t ∈ looksOf ops o, ∃ v, a.tmps[t]? = some v ∧ SrcOf ops Φ a0 i t v w := by
  intro t ht
  have hts : t < a0.tmps.size := by rw [hN]; exact ((dagOk_at hok ho).2.2 t ht).1
  unfold SrcOf
  cases hw : writerOf ops t with
  | none =>
    have h := hI.rest t fun j x hx _ => writerOf_none hw j x hx
    rw [h]
    exact ⟨_, Array.getElem?_eq_getElem hts, Array.getElem?_eq_getElem hts⟩
  | some j =>
    obtain ⟨x, hx, hd⟩ := writerOf_some hw
    rcases ((dagOk_at hok ho).2.2 t ht).2 j hw with ⟨hlt, hh⟩ | ⟨hlt, hh⟩
    · simp only [hlt, if_true]
      obtain ⟨v, hv, hs⟩ := hI.done j x hx (hshut j hh)
      exact ⟨v, hs t hd hts, hv⟩
    · simp only [show ¬ j < i by omega, if_false]
      have h := hI.rest t fun k y hy hk hkt => by
        have hk2 := ((dagOk_at hok hy).2.1 t hkt).1
        rw [hw] at hk2
        obtain rfl := Option.some.inj hk2
        have := hI.shut _ _ hx hk i (hh x hx)
        rw [hnot] at this
        cases this
      rw [h]
      exact ⟨_, Array.getElem?_eq_getElem hts, Array.getElem?_eq_getElem hts⟩

theorem dag_any (hok : dagOk N ops = true) (hN : a0.tmps.size = N) (hst : ∀ i v w w', Φ i v w → E w w' → Φ i v w') (htr : ∀ w w', E w0 w → E w w' → E w0 w')
    (hone : allOps P ops Q E w0 Φ a0 0 ops)
    (hend : ∀ a w, E w0 w → a.tmps.size = a0.tmps.size → a.defers = a0.defers → (∀ i o, ops[i]? = some o → ∃ v, Φ i v w ∧ ∀ d, o.dst = some d → a.tmps[d]? = some v) →
      (∀ t, writerOf ops t = none → a.tmps[t]? = a0.tmps[t]?) → Q .normal a w) :
    ∀ (n : Nat) (L : Array Bool) (a : Act) (w : World), DagInv ops E w0 Φ a0 L a w → (L.toList.filter (· == false)).length ≤ n → wpAny P .any ops.toArray Q n L a w := by
  have fin : ∀ (L : Array Bool) (a : Act) (w : World), DagInv ops E w0 Φ a0 L a w → Region.ready .any ops.toArray L = [] → Q .normal a w := by
    intro L a w hI hr
    have hall := dag_ready_nil hok hI.len hr
    refine hend a w hI.ext hI.size hI.defers (fun i o ho => by
      obtain ⟨v, hv, hd⟩ := hI.done i o ho (hall i (List.getElem?_eq_some_iff.1 ho).1)
      exact ⟨v, hv, fun d hod => hd d hod (by rw [hN]; exact ((dagOk_at hok ho).2.1 d hod).2)⟩) fun t ht => hI.rest t fun i o ho _ => writerOf_none ht i o ho
  intro n
  induction n with
  | zero =>
    intro L a w hI hn
    have hr : Region.ready .any ops.toArray L = [] := by
      cases hx : Region.ready .any ops.toArray L with
      | nil => rfl
      | cons x xs =>
        exfalso
        have hm : x ∈ Region.ready .any ops.toArray L := by rw [hx]; exact List.mem_cons_self
        unfold Region.ready at hm
        rw [List.mem_filter] at hm
        have hxl : x < L.size := by rw [hI.len]; simpa using hm.1
        have hf : L[x] = false := by
          have := hm.2
          simp [hxl] at this
          exact this.1
        have : false ∈ L.toList.filter (· == false) := by
          rw [List.mem_filter]
          exact ⟨by rw [← hf]; simp, rfl⟩
        have := List.length_pos_of_mem this
        omega
    exact ⟨hr, fin L a w hI hr⟩
  | succ n ih =>
    intro L a w hI hn
    refine ⟨fin L a w hI, fun i hi => ?_⟩
    have hi' := hi
    unfold Region.ready at hi'
    rw [List.mem_filter] at hi'
    have hlt : i < ops.length := by simpa using hi'.1
    have hil : i < L.size := by rw [hI.len]; exact hlt
    have ho : ops[i]? = some ops[i] := List.getElem?_eq_getElem hlt
    have h2 := hi'.2
    rw [show ops.toArray[i]? = some ops[i] by simp [hlt]] at h2
    simp only [Option.map_some, Option.getD_some, Bool.and_eq_true] at h2
    have hf : L[i]? = some false := by
      have := h2.1
      simp [hil] at this
      simp [hil, this]
    have hshut : ∀ j, hangsOn ops[i] j = true → L[j]? = some true := by
      intro j hj
      unfold hangsOn at hj
      rw [Array.any_eq_true] at hj
      obtain ⟨k, hk, hkj⟩ := hj
      have := Array.all_eq_true.1 h2.2 k hk
      simp only [Bool.and_eq_true, beq_iff_eq] at hkj
      rw [hkj.2] at this
      simp only [Bool.not_true, Bool.false_or] at this
      rw [hkj.1] at this
      have hjl : j < L.size := by
        have := (dagOk_at hok ho).1 j (by unfold hangsOn; rw [Array.any_eq_true]; exact ⟨k, hk, by simp [hkj]⟩)
        omega
      simpa [hjl] using this
    have hcount : ((L.setIfInBounds i true).toList.filter (· == false)).length ≤ n := by
      have hc : ∀ (l : List Bool) (k : Nat), l[k]? = some false → ((l.set k true).filter (· == false)).length + 1 = (l.filter (· == false)).length := by
        intro l
        induction l with
        | nil => intro k h; simp at h
        | cons b l ih =>
          intro k h
          cases k with
          | zero => simp at h; subst h; simp
          | succ k =>
            have := ih k (by simpa using h)
            cases b <;> simp at this ⊢ <;> omega
      have h3 := hc L.toList i (by simpa using hf)
      rw [Array.toList_setIfInBounds]
      omega
    have h1 := allOps_get ops 0 hone i ops[i] ho
    rw [Nat.zero_add] at h1
    have h4 := h1 a w hI.ext hI.size hI.defers (dag_looks hok hN hI ho hf hshut)
    have hK : ∀ v w', Φ i v w' → E w w' → wpAny P .any ops.toArray Q n (L.setIfInBounds i true) (a.put ops[i].dst v) w' :=
      fun v w' hv hE => ih _ _ _ (dag_step hok hst htr hI ho hshut hv hE) hcount
    unfold wpOp
    rw [show ops.toArray[i]? = some ops[i] by simp [hlt]]
    simp only [wpList] at h4
    dsimp only
    have key : ∀ K' : Act → World → Prop, (∀ a' w', (∃ v, a' = a.put ops[i].dst v ∧ Φ i v w' ∧ E w w') → K' a' w') →
        Oper.wp P ops[i] a w (fun a' w' => ∃ v, a' = a.put ops[i].dst v ∧ Φ i v w' ∧ E w w') (Exit.then (fun a' w' => ∃ v, a' = a.put ops[i].dst v ∧ Φ i v w' ∧ E w w') Q) → Oper.wp P ops[i] a w K' Q := by
      intro K' hK' h
      unfold Oper.wp at *
      generalize (execOp a.eval ops[i]).run P w = r at *
      cases r with
      | ok x w' =>
        cases x <;> simp only [Oper.upon] at h ⊢ <;>
          first
            | exact hK' _ _ h
            | exact Calls.mono h (fun e w'' he => by
                cases e with
                | returned v => exact hK' _ _ he
                | panicked ch => exact he
                | outgrown => obtain ⟨x, y, hq⟩ := he; exact ⟨x, y, hq⟩)
            | exact Rows.mono h (fun _ _ he => hK' _ _ he)
      | halt x w' => cases x <;> simp only [Oper.upon] at h ⊢ <;> exact h
    split
    · rename_i hw
      rw [if_pos hw] at h4
      rcases h4 with h4 | ⟨h4, x, y, hq⟩
      · exact .inl (key _ (fun a' w' ⟨v, e, hv, hE⟩ => by rw [e]; exact hK v w' hv hE) h4)
      · exact .inr ⟨h4, x, y, hq⟩
    · rename_i hw
      rw [if_neg hw] at h4
      obtain ⟨v, e, hv, hE⟩ := h4
      rw [e]
      exact hK v w hv hE

/-- THE LAW. -/
theorem wp_region_dag {id : Nat} (hm : P.follows .mixedOrders = true) (N : Nat) (hN : a0.tmps.size = N) (hok : dagOk N ops = true) {w : World}
    (hst : ∀ i v w w', Φ i v w → E w w' → Φ i v w') (hrf : E w0 { w with drawn := w.drawn + 1 }) (htr : ∀ w w', E w0 w → E w w' → E w0 w')
    (hone : allOps P ops Q E w0 Φ a0 0 ops)
    (hend : ∀ a w, E w0 w → a.tmps.size = a0.tmps.size → a.defers = a0.defers → (∀ i o, ops[i]? = some o → ∃ v, Φ i v w ∧ ∀ d, o.dst = some d → a.tmps[d]? = some v) →
      (∀ t, writerOf ops t = none → a.tmps[t]? = a0.tmps[t]?) → Q .normal a w) :
    (Code.region id ops.toArray true).wp P Q a0 w := by
  refine wp_region_any hm ?_
  refine dag_any hok hN hst htr hone hend _ _ _ _ ⟨hrf, rfl, rfl, by simp, ?_, ?_, ?_⟩ ?_
  · intro i o ho h; simp [Array.getElem?_replicate] at h
  · intro t _; rfl
  · intro i o ho h; simp [Array.getElem?_replicate] at h
  · simp
end
end Go.Proofs.YthjnbpfbhmfopaaDoor
