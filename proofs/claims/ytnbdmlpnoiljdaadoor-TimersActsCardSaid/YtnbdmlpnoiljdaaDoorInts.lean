/- Lists of ints as cells. -/
import Derived.Test.YtnbdmlpnoiljdaaDoorElem
namespace Go.Proofs.YtnbdmlpnoiljdaaDoor
open Go Go.RowKit

def intsV (l : List Int) : List Value := l.map (Value.int .i64)
theorem one_intsV (l : List Int) : ∀ u ∈ intsV l, u.oneCell' = true := by
  intro u hu; obtain ⟨_, _, rfl⟩ := List.mem_map.1 hu; rfl
theorem Rd.len_ints {w : World} {A : Option Addr} {n : Nat} {l : List Int} (h : Rd w 1 A n (intsV l)) : l.length = n := by simpa [intsV] using h.1
theorem Tryd.elemI : Elem Tryd.prog 43 3 (.int .i64 0) 1 8 := ⟨Tryd.underlying43, by kernel_rfl, rfl, by omega⟩
end Go.Proofs.YtnbdmlpnoiljdaaDoor
