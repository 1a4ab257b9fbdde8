/- Lists of texts; slices.Grow, Concat, Clone of texts. -/
import Derived.Test.YthjnbpfbhmfopaaDoorOwn
import Derived.Test.YthjnbpfbhmfopaaDoorElem
import Derived.Lib.AppendZerosOnto
import Derived.Lib.ConvBytes
namespace Go.Proofs.YthjnbpfbhmfopaaDoor
open Go Go.RowKit

theorem Ext.drawn (w : World) (n : Nat) : Ext w (w.drewN n) := ⟨rfl, rfl, rfl, Nat.le_refl _, fun _ _ => rfl⟩
theorem rd_newS (w : World) (size n : Nat) (cs : List Value) (e : TypeId) (h : cs.length = n * size) : Rd (w.alloc (.cells cs.toArray e)) size (some ⟨w.heap.size, 0, none⟩) n cs := by
  have := (Blk.newL w e cs).rd (n := n) (size := size) 0 (by omega)
  rwa [List.drop_zero, List.take_of_length_le (by omega)] at this
def strV (l : List UInt8) : Value := .string ⟨l.toArray⟩
def strsV (ss : List (List UInt8)) : List Value := ss.map strV
theorem one_strsV (ss : List (List UInt8)) : ∀ u ∈ strsV ss, u.oneCell' = true := by
  intro u hu; obtain ⟨_, _, rfl⟩ := List.mem_map.1 hu; rfl
theorem Rd.len_strs {w : World} {A : Option Addr} {n : Nat} {l : List (List UInt8)} (h : Rd w 1 A n (strsV l)) : l.length = n := by simpa [strsV] using h.1

theorem Tryd.elemS : Elem Tryd.prog 64 9 (.string ⟨#[]⟩) 1 16 := ⟨Tryd.underlying64, by kernel_rfl, rfl, by omega⟩

/-- A slice of texts that isn't empty: where its cells lie, in this world and all that come of it. -/
theorem Rd.strs {w : World} {A : Option Addr} {n : Nat} {l : List (List UInt8)} (h : Rd w 1 A n (strsV l)) (hp : 0 < l.length) :
    ∃ b o, A = some ⟨b, o, none⟩ ∧ Hid (∀ w', Below w.heap.size w w' → ∀ i (hi : i < l.length), w'.cell? ⟨b, o + i, none⟩ = some (.string ⟨(l[i]).toArray⟩)) := by
  obtain ⟨b, o, rfl, hb, hc⟩ := h.2 (by simpa [strsV] using hp)
  refine ⟨b, o, rfl, fun w' hw i hi => ?_⟩
  rw [hw.cell (p := ⟨b, o + i, none⟩) hb]
  exact hc i _ (by simp [strsV, strV, hi])

/-- []byte(s): bytes in a new block. -/
theorem conv_bytes {P : Program} (w : World) {src dst e : TypeId} {u : TypeDesc} (hs : P.underlying src = some u) (hd : P.underlying dst = some (.slice e)) (he : P.underlying e = some (.int .u8)) (l : List UInt8) (hl : l.length ≤ 1000000) :
    ∃ cap w1, (convert src dst (.string ⟨l.toArray⟩)).run P w = .ok (.slice (some ⟨w.heap.size, 0, none⟩) l.length cap) w1 ∧ Rd w1 1 (some ⟨w.heap.size, 0, none⟩) l.length (bytesV l) ∧ Ext w w1 ∧ l.length ≤ cap ∧ cap ≤ maxLen := by
  have hrun := Lib.run_convert_string_bytes (P := P) w src dst e ⟨l.toArray⟩ hs hd he
  have hlt : w.heap.size < (Lib.bytesWorld w e ⟨l.toArray⟩).heap.size := by
    have h := Lib.bytesWorld_at_new w e ⟨l.toArray⟩
    exact (Array.getElem?_eq_some_iff.1 h).1
  refine ⟨_, _, hrun, ⟨by simp [bytesV], fun _ => ⟨w.heap.size, 0, rfl, hlt, fun j x hx => ?_⟩⟩, ⟨rfl, rfl, rfl, Nat.le_of_lt hlt, fun k hk => Lib.bytesWorld_at_old w e _ k hk⟩, grownCap_ge w _ _ _, grownCap_le_maxLen w _ _ _ (by show l.length ≤ _; unfold maxLen; omega)⟩
  have hj : j < l.length := by
    have := (List.getElem?_eq_some_iff.1 hx).1
    simpa [bytesV] using this
  rw [Nat.zero_add]
  have hc : (Lib.bytesWorld w e ⟨l.toArray⟩).cell? ⟨w.heap.size, j, none⟩ = (Lib.bytesCells w e ⟨l.toArray⟩)[j]? := by
    simp [World.cell?, Lib.bytesWorld_at_new]
  rw [hc, ← hx]
  unfold Lib.bytesCells
  rw [Array.getElem?_append_left (by simpa using hj)]
  simp [bytesV, U8, hj]
end Go.Proofs.YthjnbpfbhmfopaaDoor
