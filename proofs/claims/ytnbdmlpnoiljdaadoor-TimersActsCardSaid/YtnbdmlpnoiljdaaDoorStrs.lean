/- Lists of texts; slices.Grow, Concat, Clone of texts. -/
import Derived.Test.YtnbdmlpnoiljdaaDoorOwn
import Derived.Test.YtnbdmlpnoiljdaaDoorElem
import Derived.Lib.AppendZerosOnto
import Derived.Lib.ConvBytes
namespace Go.Proofs.YtnbdmlpnoiljdaaDoor
open Go Go.RowKit

theorem Ext.drawn (w : World) (n : Nat) : Ext w (w.drewN n) := ⟨rfl, rfl, rfl, Nat.le_refl _, fun _ _ => rfl⟩
theorem rd_newS (w : World) (size n : Nat) (cs : List Value) (e : TypeId) (h : cs.length = n * size) : Rd (w.alloc (.cells cs.toArray e)) size (some ⟨w.heap.size, 0, none⟩) n cs := by
  have := (Blk.newL w e cs).rd (n := n) (size := size) 0 (by omega)
  rwa [List.drop_zero, List.take_of_length_le (by omega)] at this
def strV (l : List UInt8) : Value := .string ⟨l.toArray⟩
def strsV (ss : List (List UInt8)) : List Value := ss.map strV
theorem one_strsV (ss : List (List UInt8)) : ∀ u ∈ strsV ss, u.oneCell' = true := by
  intro u hu; obtain ⟨_, _, rfl⟩ := List.mem_map.1 hu; rfl
theorem Rd.len_strs {w : World} {A : Option Addr} {n : Nat} {l : List (List UInt8)} (h : Rd w 1 A n (strsV l)) : l.length = n := by simpa [strsV] using h.1

theorem Tryd.elemS : Elem Tryd.prog 22 9 (.string ⟨#[]⟩) 1 16 := ⟨Tryd.underlying22, by kernel_rfl, rfl, by omega⟩

/-- A slice of texts that isn't empty: where its cells lie, in this world and all that come of it. -/
theorem Rd.strs {w : World} {A : Option Addr} {n : Nat} {l : List (List UInt8)} (h : Rd w 1 A n (strsV l)) (hp : 0 < l.length) :
    ∃ b o, A = some ⟨b, o, none⟩ ∧ Hid (∀ w', Below w.heap.size w w' → ∀ i (hi : i < l.length), w'.cell? ⟨b, o + i, none⟩ = some (.string ⟨(l[i]).toArray⟩)) := by
  obtain ⟨b, o, rfl, hb, hc⟩ := h.2 (by simpa [strsV] using hp)
  refine ⟨b, o, rfl, fun w' hw i hi => ?_⟩
  rw [hw.cell (p := ⟨b, o + i, none⟩) hb]
  exact hc i _ (by simp [strsV, strV, hi])

set_option maxHeartbeats 1000000 in
set_option maxRecDepth 20000 in
theorem growNilS (n : Nat) (w : World) (hn : n ≤ 1000000) :
    Calls Tryd.prog 76 #[.slice none 0 0, .int .i64 n] w fun e w' => ∃ v, e = .returned v ∧ w'.ownsRow w.heap.size 9 1 v 0 [] ∧ Ext w w' := by
  by_cases h0 : n = 0
  · subst h0
    go_enter Tryd.func76, Tryd.ntmps76
    go_wp2
    go_ret
    exact ⟨_, rfl, World.ownsRow_nil _ _ _ _, Ext.refl _⟩
  obtain ⟨i, hi, hz, hsz, hby⟩ := info_parts (Tryd.elemS).info
  have hold : (Builtin.firstCells i.size 0 (.slice none 0 0)).run Tryd.prog w.drew = .ok #[] w.drew := run_firstCells_none w.drew i.size 0 0 0
  have hG := grownCap_le_maxLen w n 0 9 (by unfold maxLen; omega)
  have hGn : n ≤ grownCap w n 0 9 := grownCap_ge w _ _ _
  have hrz : ∀ ty, (Builtin.append_ #[22, 3] ty #[.slice none 0 0, .int .i64 (n : Int)]).run Tryd.prog w =
      .ok (.slice (some ⟨w.heap.size, 0, none⟩) n (grownCap w n 0 9)) (w.drew.alloc (.cells ((#[] : Array Value) ++ Builtin.zeroCells (Value.string ⟨#[]⟩).cells n ++ Builtin.zeroCells (Value.string ⟨#[]⟩).cells (grownCap w n 0 9 - n)) 9)) := fun ty => by
    have h := Lib.run_append_grow_zeros w 22 3 ty 9 i _ .i64 .i64 Tryd.underlying22 Tryd.underlying3 hi hz none 0 0 [] hold n (by omega) (by omega) (by omega) (by omega) (by rw [hby]; omega) (growslice_fits (by omega) (by rw [hby]; omega))
    simpa using h
  generalize grownCap w n 0 9 = G at *
  clear hold hi hz hsz hby
  have hp : ¬ ((n : Int) ≤ 0) := by omega
  have hGl : (G : Int) ≤ 9223372036854775807 := by unfold maxLen at hG; omega
  go_enter Tryd.func76, Tryd.ntmps76
  go_wp2_with (at_builtin; refine Lib.wpList_append_run _ rfl _ _ _ _ rfl _ _ rfl rfl _ _ (hrz _) ?_)
  all_goals
    go_ret
    refine ⟨_, rfl, ?_, ((Below.refl _ _).drew).alloc (by simp) _⟩
    have hz1 : ∀ k, (Builtin.zeroCells #[Value.string ⟨#[]⟩] k).size = k := fun k => by simp [Builtin.zeroCells]
    have := own_new (w := (w.alloc (.cells (Builtin.zeroCells #[Value.string ⟨#[]⟩] n ++ Builtin.zeroCells #[Value.string ⟨#[]⟩] (G - n)) 9)).drew) (base := w.heap.size) (n := 0) (cap := G) (size := 1) (heap_alloc_new w _) (Nat.le_refl _) (Nat.zero_le _) hG (by rw [Array.size_append, hz1, hz1]; omega)
    simpa using this

/-- []byte(s): bytes in a new block. -/
theorem conv_bytes {P : Program} (w : World) {src dst e : TypeId} {u : TypeDesc} (hs : P.underlying src = some u) (hd : P.underlying dst = some (.slice e)) (he : P.underlying e = some (.int .u8)) (l : List UInt8) (hl : l.length ≤ 1000000) :
    ∃ cap w1, (convert src dst (.string ⟨l.toArray⟩)).run P w = .ok (.slice (some ⟨w.heap.size, 0, none⟩) l.length cap) w1 ∧ Rd w1 1 (some ⟨w.heap.size, 0, none⟩) l.length (bytesV l) ∧ Ext w w1 ∧ l.length ≤ cap ∧ cap ≤ maxLen := by
  have hrun := Lib.run_convert_string_bytes (P := P) w src dst e ⟨l.toArray⟩ hs hd he
  have hlt : w.heap.size < (Lib.bytesWorld w e ⟨l.toArray⟩).heap.size := by
    have h := Lib.bytesWorld_at_new w e ⟨l.toArray⟩
    exact (Array.getElem?_eq_some_iff.1 h).1
  refine ⟨_, _, hrun, ⟨by simp [bytesV], fun _ => ⟨w.heap.size, 0, rfl, hlt, fun j x hx => ?_⟩⟩, ⟨rfl, rfl, rfl, Nat.le_of_lt hlt, fun k hk => Lib.bytesWorld_at_old w e _ k hk⟩, grownCap_ge w _ _ _, grownCap_le_maxLen w _ _ _ (by show l.length ≤ _; unfold maxLen; omega)⟩
  have hj : j < l.length := by
    have := (List.getElem?_eq_some_iff.1 hx).1
    simpa [bytesV] using this
  rw [Nat.zero_add]
  have hc : (Lib.bytesWorld w e ⟨l.toArray⟩).cell? ⟨w.heap.size, j, none⟩ = (Lib.bytesCells w e ⟨l.toArray⟩)[j]? := by
    simp [World.cell?, Lib.bytesWorld_at_new]
  rw [hc, ← hx]
  unfold Lib.bytesCells
  rw [Array.getElem?_append_left (by simpa using hj)]
  simp [bytesV, U8, hj]
end Go.Proofs.YtnbdmlpnoiljdaaDoor
