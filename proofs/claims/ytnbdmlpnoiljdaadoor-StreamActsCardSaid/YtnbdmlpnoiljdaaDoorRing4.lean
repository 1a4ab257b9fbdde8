/- The chapter's example of the ring. -/
import Derived.Test.YtnbdmlpnoiljdaaDoorRing3
import Derived.Lib.SlBytesConst
namespace Go.Proofs.YtnbdmlpnoiljdaaDoor
open Go Go.RowKit

theorem Ext.alloc1 (w : World) (o : Obj) : Ext w (w.alloc o) := (Below.refl _ _).alloc (Nat.le_refl _) o
theorem rd_newB (w : World) (l : List UInt8) (e : TypeId) (z : Nat × Nat) : Rd (w.alloc (.cells (bytesV l).toArray e z)) 1 (some ⟨w.heap.size, 0, none⟩) l.length (bytesV l) := by
  refine ⟨by simp [bytesV], fun _ => ⟨_, _, rfl, by simp, fun j u hu => ?_⟩⟩
  rw [Nat.zero_add, ← hu]
  show (match (w.alloc (.cells (bytesV l).toArray e z)).heap[w.heap.size]? with | some (.cells c elem frozen) => (c[j]? : Option Value) | _ => none) = _
  rw [heap_alloc_new]
  simp
/-- The bytes of a constant text, as the program lays them. -/
theorem lit_bytes {P : Program} {t e : TypeId} (ht : P.underlying t = some (.slice e)) (he : P.underlying e = some (.int .u8)) (w : World) (l : List UInt8) (C : Array Value) (hC : C = (bytesV l).toArray) (n c k : Nat) (hn : n = l.length) (hk : k = l.length) :
    (convert t t (.slice (some ⟨w.heap.size, 0, none⟩) n c)).run P (w.alloc (.cells C e)) = .ok (.slice (some ⟨w.heap.size, 0, none⟩) n c) (w.alloc (.cells C e (k, k + 1))) ∧
    Rd (w.alloc (.cells C e (k, k + 1))) 1 (some ⟨w.heap.size, 0, none⟩) n (bytesV l) := by
  have hs : C.size = k := by rw [hC, hk]; simp [bytesV]
  refine ⟨by rw [← hs]; exact Lib.run_convert_bytes_const w t e C n c ht he, ?_⟩
  subst hC hn
  exact rd_newB w l e _

end Go.Proofs.YtnbdmlpnoiljdaaDoor
