/- layer 13: the law of cycles that are gathered. -/
import Derived.Test.YtnbdmlpnoiljdaaDoorTt6
namespace Go.Proofs.YtnbdmlpnoiljdaaDoor
open Go Go.RowKit

theorem CycAt.below {w w' : World} {a : Nat} {A : Option Addr} {c : Nat} {T : List (List UInt8)} {k B : Nat} (h : CycAt w a A c T k) (hb : Below B w w') (ha : a < B) (hA : ∀ b o v, A = some ⟨b, o, v⟩ → b < B) : CycAt w' a A c T k :=
  ⟨h.blk.below hb ha, ⟨h.rd.1, fun hp => by
    obtain ⟨b, o, e, hlt, hc⟩ := h.rd.2 hp
    exact ⟨b, o, e, Nat.lt_of_lt_of_le hlt hb.size, fun j u hu => (hb.cell (p := ⟨b, o + j, none⟩) (hA _ _ _ e)).trans (hc j u hu)⟩⟩, h.lt, h.small, h.apart⟩

theorem takeStep (T : List (List UInt8)) (n : Nat) (hn : T.length = n) (h1 : 1 ≤ n) (h8 : n ≤ 8) (hall : T.all rightB = true) (hadj : ∀ i, i + 1 < n → T[i]? ≠ T[i + 1]?) (k : Nat) (hk : k ≤ n) (s : List UInt8) (hs : (T ++ T.drop (n - 1))[k]? = some s) :
    s ∈ T ∧ takeP (T.take k) (decide (k = 8 ∨ k = n + 1)) s = (T.take (k + 1), decide (k + 1 = 8 ∨ k + 1 = n + 1)) := by
  have hright : ∀ x ∈ T, rightB x = true := by simpa using hall
  by_cases hlt : k < n
  · rw [List.getElem?_append_left (by omega)] at hs
    have hm : s ∈ T := List.mem_of_getElem? hs
    have hw : decide (k = 8 ∨ k = n + 1) = false := by simp; omega
    have hgl : ¬ (T.take k).getLast? = some s := by
      intro he
      rw [List.getLast?_eq_getElem?, List.length_take, Nat.min_eq_left (by omega)] at he
      cases k with
      | zero => simp at he
      | succ j =>
        have hj := hadj j (by omega)
        rw [hs] at hj
        rw [Nat.add_sub_cancel, List.getElem?_take_of_lt (by omega)] at he
        exact hj he
    have hkl : k < T.length := by omega
    have hsk : T[k] = s := by rw [List.getElem?_eq_getElem hkl] at hs; exact Option.some.inj hs
    refine ⟨hm, ?_⟩
    rw [hw]
    simp only [takeP, hright s hm, hgl, if_true, if_false, Bool.false_eq_true]
    have e1 : (T.take k).length = k := by simp; omega
    have e2 : decide (k + 1 = 8) = decide (k + 1 = 8 ∨ k + 1 = n + 1) := by rw [decide_eq_decide]; omega
    rw [List.take_succ_eq_append_getElem hkl, hsk, e1, e2]
  · obtain rfl : k = n := by omega
    rw [List.getElem?_append_right (by omega), hn, Nat.sub_self, List.getElem?_drop, Nat.add_zero] at hs
    have hm : s ∈ T := List.mem_of_getElem? hs
    have ht1 : T.take k = T := List.take_of_length_le (by omega)
    have ht2 : T.take (k + 1) = T := List.take_of_length_le (by omega)
    refine ⟨hm, ?_⟩
    rw [ht1, ht2]
    by_cases hk8 : k = 8
    · subst hk8; simp [takeP]
    · have hw : decide (k = 8 ∨ k = k + 1) = false := by simp; omega
      have hgl : T.getLast? = some s := by rw [List.getLast?_eq_getElem?, hn]; exact hs
      rw [hw]
      simp [takeP, hright s hm, hgl]

/-- What stands at each round. -/
def GathLp (w wr : World) (B ac c3 n m : Nat) (A3 : Option Addr) (T : List (List UInt8)) : Prop :=
  CycAt wr ac A3 c3 (T ++ T.drop (n - 1)) (m % (n + 1)) ∧ (∃ A' c', LstAt wr B B A' c' (T.take m) (decide (m = 8 ∨ m = n + 1))) ∧ Ext w wr ∧ B ≤ wr.heap.size

end Go.Proofs.YtnbdmlpnoiljdaaDoor
