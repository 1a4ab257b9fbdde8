/- StreamActs: the walk. -/
import Derived.Test.YtnbdmlpnoiljdaaDoorStrm13
import Derived.Test.YtnbdmlpnoiljdaaDoorCut1
import Derived.Test.YtnbdmlpnoiljdaaDoorDag
import Derived.BigQuiet
namespace Go.Proofs.YtnbdmlpnoiljdaaDoor
open Go Go.RowKit

theorem actAt4 {w : World} {X : List Nat} {A : Option Addr} {n : Nat} {es : List Ev} (h : EvsRd w X A n es) {k : Nat} {e : Ev} (hk : es[k]? = some e) :
    ∃ b o A1 c1 B1 d1, A = some ⟨b, o, none⟩ ∧ b < w.heap.size ∧ w.cell? ⟨b, o + k * 4, none⟩ = some (.int .i64 e.kind) ∧ w.cell? ⟨b, o + k * 4 + 1, none⟩ = some (.int .i64 e.n) ∧ w.cell? ⟨b, o + k * 4 + 2, none⟩ = some (.slice A1 e.b.length c1) ∧ w.cell? ⟨b, o + k * 4 + 3, none⟩ = some (.slice B1 e.m.length d1) ∧
      e.b.length ≤ c1 ∧ c1 ≤ maxLen ∧ e.m.length ≤ d1 ∧ d1 ≤ maxLen ∧ Rd w 1 A1 e.b.length (bytesV e.b) ∧ Rd w 1 B1 e.m.length (intsV e.m) := by
  obtain ⟨b, o, vb, vm, h1, h2, p0, p1, p2, p3, he⟩ := h.get hk
  obtain ⟨A1, c1, B1, d1, rfl, rfl, q1, q2, q3, q4, q5, q6⟩ := he.open
  exact ⟨b, o, A1, c1, B1, d1, h1, h2, p0, p1, p2, p3, q1, q2, q3, q4, q5, q6⟩

/-- What 'long' tells. -/
def Long03 (es : List Ev) (n : Nat) (w w' : World) (e : Ending) : Prop :=
  ∃ r : Bool, e = .returned (.bool r) ∧ Ext w w' ∧ (r = false → n ≤ 60 ∧ ∀ e ∈ es, e.b.length ≤ 300 ∧ e.m.length ≤ 40)

set_option maxHeartbeats 1000000 in
set_option maxRecDepth 20000 in
theorem long03 {w : World} {es : List Ev} {A : Option Addr} {n c : Nat} (hr : EvsRd w [] A n es) :
    Calls Tryd.prog 30 #[.slice A n c] w fun e w' => Long03 es n w w' e := by
  have hl : es.length = n := by obtain ⟨vs, _, h, _⟩ := hr; exact h
  have HR := Lib.hid hr
  have HL := Lib.hid hl
  clear hr hl
  go_enter Tryd.func30, Tryd.ntmps30
  by_cases h60 : n ≤ 60
  · go_wp2
    go_loopw [10] (fun i wr => ∃ k : Nat, k ≤ n ∧ i = .int .i64 k ∧ Ext w wr ∧ ∀ e ∈ es.take k, e.b.length ≤ 300 ∧ e.m.length ≤ 40) (fun i _ => n - (intOf i).toNat)
    case atStart => exact ⟨0, Nat.zero_le _, rfl, Ext.refl _, by simp⟩
    case round =>
      obtain ⟨k, hk, rfl, hx, hall⟩ := hrel
      by_cases hlt : k < n
      · obtain ⟨e, he⟩ : ∃ e, es[k]? = some e := ⟨_, List.getElem?_eq_getElem (by rw [HL.out]; exact hlt)⟩
        obtain ⟨b, o, A1, c1, B1, d1, rfl, hbl, p0', p1', p2', p3', _⟩ := actAt4 HR.out he
        have p0 : wr.cell? ⟨b, o + k * 4, none⟩ = some (.int .i64 e.kind) := (hx.cell (p := ⟨b, _, none⟩) hbl).trans p0'
        have p1 : wr.cell? ⟨b, o + k * 4 + 1, none⟩ = some (.int .i64 e.n) := (hx.cell (p := ⟨b, _, none⟩) hbl).trans p1'
        have p2 : wr.cell? ⟨b, o + k * 4 + 2, none⟩ = some (.slice A1 e.b.length c1) := (hx.cell (p := ⟨b, _, none⟩) hbl).trans p2'
        have p3 : wr.cell? ⟨b, o + k * 4 + 3, none⟩ = some (.slice B1 e.m.length d1) := (hx.cell (p := ⟨b, _, none⟩) hbl).trans p3'
        have htk : es.take (k + 1) = es.take k ++ [e] := by rw [List.take_add_one, he]; rfl
        have hx1 := Ext.new1 wr (.cells #[.int .i64 e.kind, .int .i64 e.n, .slice A1 e.b.length c1, .slice B1 e.m.length d1] 65)
        have HTK := Lib.hid htk
        have HALL := Lib.hid hall
        clear p0' p1' p2' p3' htk he hall
        by_cases hb1 : e.b.length ≤ 300
        · by_cases hb2 : e.m.length ≤ 40
          · have hall2 : ∀ e' ∈ es.take (k + 1), e'.b.length ≤ 300 ∧ e'.m.length ≤ 40 := by
              rw [HTK.out]
              intro e' he'
              rcases List.mem_append.1 he' with h | h
              · exact HALL.out e' h
              · simp at h; subst h; exact ⟨hb1, hb2⟩
            have HALL2 := Lib.hid hall2
            clear hall2
            go_wp2
            go_roundw
            case rel => exact ⟨k + 1, hlt, by go_num, hx.trans hx1, HALL2.out⟩
            case measure => simp [intOf]; omega
          · go_wp2
            go_ret
            exact ⟨true, rfl, hx.trans hx1, fun h => by cases h⟩
        · go_wp2
          go_ret
          exact ⟨true, rfl, hx.trans hx1, fun h => by cases h⟩
      · obtain rfl : k = n := by omega
        rw [List.take_of_length_le (by rw [HL.out]; exact Nat.le_refl _)] at hall
        have HALL := Lib.hid hall
        clear hall
        go_wp2
        go_ret
        exact ⟨_, rfl, hx, fun _ => ⟨h60, HALL.out⟩⟩
  · go_wp2
    go_ret
    exact ⟨true, rfl, Ext.refl _, fun h => by cases h⟩

set_option maxHeartbeats 400000 in
theorem rngNewErr (E : Nat → Addr) (room : Int) (w : World) (hE : Errs w E) (h : room < 1 ∨ 4096 < room) :
    Calls Tryd.prog 57 #[.int .i64 room] w fun e w' => e = .returned (.tuple #[.pointer none, errV E 0]) ∧ ∃ m, w' = w.drewN m := by
  have g0 := hE.cell (i := 0) rfl
  have h' : room < 1 ∨ (¬ room < 1 ∧ 4096 < room) := by omega
  clear h
  unfold errV at *
  rcases h' with h | ⟨h1, h⟩
  all_goals
    go_enter Tryd.func57, Tryd.ntmps57
    go_wp2
    go_quiet (fail)
    go_wp2
    go_ret2
    exact ⟨rfl, _, rfl⟩
theorem strmNewErr (E : Nat → Addr) (room : Int) (w : World) (hE : Errs w E) (h : room < 1 ∨ 4096 < room) :
    Calls Tryd.prog 23 #[.int .i64 room] w fun e w' => e = .returned (.tuple #[.pointer none, errV E 0]) ∧ Ext w w' := by
  have HN := Lib.hid (rngNewErr E room w hE h)
  clear h
  unfold errV at *
  go_enter Tryd.func23, Tryd.ntmps23
  go_wp2_with (go_at_call 57; refine HN.out.mono ?_; rintro e w1 ⟨rfl, m1, rfl⟩)
  all_goals go_ret2
  all_goals exact ⟨rfl, Ext.drawn _ _⟩
end Go.Proofs.YtnbdmlpnoiljdaaDoor
