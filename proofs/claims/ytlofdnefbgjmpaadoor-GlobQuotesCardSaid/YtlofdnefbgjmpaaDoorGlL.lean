/- What the row of GlobQuotes lists: the words. -/
import Derived.Test.YtlofdnefbgjmpaaDoorRows
import Derived.Test.YtlofdnefbgjmpaaDoorTgA
import Derived.Lib.LaidU8
import Derived.LaidSub
namespace Go.Proofs.YtlofdnefbgjmpaaDoor
open Go Go.RowKit Go.ChangeShapes

def keepI : String × DataW Unit → Bool
  | (_, .iface _ _) => true
  | _ => false
theorem str_elem {P : Program} {W : World} {base : Nat} {sp : Nat → Bool} {held : Bool} {fuel : Nat} {t e : TypeId} {n : Nat} {cs : List Value} {ds : List (DataW Unit)} {p : List MemPlace} (ht : P.underlying t = some (.array n e)) (he : P.underlying e = some .string) (hc : P.cellsOf e = 1)
    (h : DataW.trod (fun _ => ()) P W base sp held fuel t cs = some (.agg ds, p)) (i : Nat) (hi : i < n) : ∃ s : ByteArray, ds[i]? = some (.lit (.string s.data.toList)) ∧ cs[i]? = some (.string s) := by
  obtain ⟨fuel', d, q, hdi, hx⟩ := Lib.array_elem ht h i hi
  rw [hc] at hx
  obtain ⟨s, hcs, hd, _⟩ := DataW.trod_string he hx
  refine ⟨s, ?_, ?_⟩
  · rw [hdi, show d = _ from congrArg Prod.fst hd]
  · have e := congrArg (·[0]?) hcs
    simpa [List.getElem?_take, List.getElem?_drop] using e
theorem words_laid {W : World} {l : List (String × DataW Unit)} (h : laidMet Tryd.prog l W) (hm : ("truchman/glob.words", Rows.laid_truchman_glob_words) ∈ l) : W.cell? ⟨5, 2, none⟩ = some (.string ⟨#[103, 108, 111, 98]⟩) := by
  obtain ⟨g, t, cs, fuel, p, hg, hty, hvar, hd⟩ := Lib.laidMet.reads h hm
  obtain rfl := Option.some.inj ((show Tryd.prog.globalNamed "truchman/glob.words" = some 5 by kernel_rfl).symm.trans hg)
  obtain rfl := Option.some.inj ((show (Tryd.prog.globals[5]?).map (·.type) = some 136 by kernel_rfl).symm.trans hty)
  unfold Rows.laid_truchman_glob_words at hd
  obtain ⟨s, h1, h2⟩ := str_elem Tryd.underlying136 Tryd.underlying9 (by kernel_rfl) hd 2 (by decide)
  have hs : s.data.toList = [103, 108, 111, 98] := by
    simp at h1
    exact h1.symm
  have hs2 : s = ⟨#[103, 108, 111, 98]⟩ := ByteArray.ext (Array.toList_inj.1 hs)
  subst hs2
  rw [World.var?_cell hg hvar 2, ← Array.getElem?_toList]
  exact h2
end Go.Proofs.YtlofdnefbgjmpaaDoor
