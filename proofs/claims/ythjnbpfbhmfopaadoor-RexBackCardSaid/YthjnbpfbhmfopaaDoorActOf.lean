/- Behind a region that draws its order: the frame, written out. Own text. -/
import Derived.Test.YthjnbpfbhmfopaaDoorDag
namespace Go.Proofs.YthjnbpfbhmfopaaDoor
open Go

theorem act_fold {a : Act} : ∀ (L : List (Tmp × Value)) (a1 : Act), a.tmps.size = a1.tmps.size → a.defers = a1.defers → (∀ p ∈ L, a.tmps[p.1]? = some p.2) → (∀ t, t ∉ L.map (·.1) → a.tmps[t]? = a1.tmps[t]?) →
    a = L.foldl (fun b p => b.put (some p.1) p.2) a1 := by
  intro L
  induction L with
  | nil =>
    intro a1 hs hd _ hr
    obtain ⟨t, d⟩ := a
    obtain ⟨t1, d1⟩ := a1
    simp only at hs hd hr
    subst hd
    have : t = t1 := by
      apply Array.ext_getElem?
      intro i
      exact hr i (by simp)
    rw [this]; rfl
  | cons p L ih =>
    intro a1 hs hd hp hr
    refine ih _ (by simpa [Act.put] using hs) hd (fun q hq => hp q (List.mem_cons_of_mem _ hq)) (fun t ht => ?_)
    have hpp := hp p List.mem_cons_self
    by_cases h : t = p.1
    · subst h
      rw [hpp]
      have hlt := (Array.getElem?_eq_some_iff.1 hpp).1
      simp only [Act.put, Array.getElem?_setIfInBounds]
      simp; omega
    · rw [hr t (by simp [h] at ht ⊢; exact ht)]
      simp only [Act.put, Array.getElem?_setIfInBounds]
      rw [if_neg (fun e => h e.symm)]

theorem writerOf_not {ops : List Oper} {t : Tmp} (h : t ∉ ops.filterMap (·.dst)) : writerOf ops t = none := by
  unfold writerOf
  rw [List.findIdx?_eq_none_iff]
  intro o ho
  cases hd : o.dst with
  | none => rfl
  | some d =>
    have : d ≠ t := fun e => h (List.mem_filterMap.2 ⟨o, ho, by rw [hd, e]⟩)
    simpa using this

theorem act_of {ops : List Oper} {a a0 : Act} (L : List (Tmp × Value)) (hL : L.map (·.1) = ops.filterMap (·.dst)) (hs : a.tmps.size = a0.tmps.size) (hd : a.defers = a0.defers) (hp : ∀ p ∈ L, a.tmps[p.1]? = some p.2)
    (hr : ∀ t, writerOf ops t = none → a.tmps[t]? = a0.tmps[t]?) : a = L.foldl (fun b p => b.put (some p.1) p.2) a0 :=
  act_fold L a0 hs hd hp fun t ht => hr t (writerOf_not (by rw [← hL]; exact ht))
end Go.Proofs.YthjnbpfbhmfopaaDoor
