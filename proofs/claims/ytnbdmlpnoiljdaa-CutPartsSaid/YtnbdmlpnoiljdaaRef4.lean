/- layer 39's document: same, Right. -/
import Derived.Test.YtnbdmlpnoiljdaaRef3
import Derived.Test.YtnbdmlpnoiljdaaDagF
import Derived.Test.YtnbdmlpnoiljdaaActOf
namespace Go.Proofs.Ytnbdmlpnoiljdaa
open Go Go.RowKit

set_option maxHeartbeats 2000000 in
set_option maxRecDepth 20000 in
/-- Events that are the document's. -/
theorem docSame {w : World} {es : List Ev} {A B : Option Addr} {n c d : Nat} (ha : EvsRd w [] A n es) (hb : RvsRd w [] B n es) (hn : n ≤ 1000000) (hnc : n ≤ c) (hnd : n ≤ d) (hms : ∀ e ∈ es, e.m.length ≤ 1000000) :
    Calls Try.prog 8 #[.slice A n c, .slice B n d] w fun r w' => r = .returned (.bool true) ∧ Ext w w' := by
  have hl : es.length = n := by obtain ⟨vs, _, h, _⟩ := ha; exact h
  have HA := Lib.hid ha
  have HB := Lib.hid hb
  have HL := Lib.hid hl
  have HMS := Lib.hid hms
  clear ha hb hl hms
  go_enter Try.func8, Try.ntmps8
  go_wp2
  go_loopw [14] (fun i wr => ∃ k : Nat, k ≤ n ∧ i = .int .i64 k ∧ Ext w wr) (fun i _ => n - (intOf i).toNat)
  case atStart => exact ⟨0, Nat.zero_le _, rfl, Ext.refl _⟩
  case round =>
    obtain ⟨k, hk, rfl, hx⟩ := hrel
    by_cases hlt : k < n
    · obtain ⟨x, hxk⟩ : ∃ e, es[k]? = some e := ⟨_, List.getElem?_eq_getElem (by rw [HL.out]; exact hlt)⟩
      obtain ⟨b1, o1, Ax, cx, Bx, dx, rfl, hbl1, p0, p1, p2, p3, hevx, _⟩ := (HA.out.keep hx).at4 hxk
      obtain ⟨b2, o2, By, dy, rfl, hbl2', q0', q1', q2', q3', hevy, _⟩ := (HB.out.keep hx).at4 hxk
      have hxm := HMS.out x (List.mem_of_getElem? hxk)
      have HEXr := Lib.hid hevx
      have HEYr := Lib.hid hevy
      clear hevx hevy hxk
      go_wp2
      have hx1 := Ext.new1 wr (.cells #[.int .i64 x.kind, .int .i64 x.n, .slice Ax x.b.length cx, .slice Bx x.m.length dx] 43)
      have hgb := Blk.new wr 43 #[.int .i64 x.kind, .int .i64 x.n, .slice Ax x.b.length cx, .slice Bx x.m.length dx]
      have hgl := hgb.lt
      have z0 : (wr.alloc (.cells #[.int .i64 x.kind, .int .i64 x.n, .slice Ax x.b.length cx, .slice Bx x.m.length dx] 43)).cell? ⟨wr.heap.size, 0, none⟩ = some (.int .i64 x.kind) := hgb.cell 0
      have z1 : (wr.alloc (.cells #[.int .i64 x.kind, .int .i64 x.n, .slice Ax x.b.length cx, .slice Bx x.m.length dx] 43)).cell? ⟨wr.heap.size, 1, none⟩ = some (.int .i64 x.n) := hgb.cell 1
      have z2 : (wr.alloc (.cells #[.int .i64 x.kind, .int .i64 x.n, .slice Ax x.b.length cx, .slice Bx x.m.length dx] 43)).cell? ⟨wr.heap.size, 2, none⟩ = some (.slice Ax x.b.length cx) := hgb.cell 2
      have z3 : (wr.alloc (.cells #[.int .i64 x.kind, .int .i64 x.n, .slice Ax x.b.length cx, .slice Bx x.m.length dx] 43)).cell? ⟨wr.heap.size, 3, none⟩ = some (.slice Bx x.m.length dx) := hgb.cell 3
      have hbl2 : b2 < (wr.alloc (.cells #[.int .i64 x.kind, .int .i64 x.n, .slice Ax x.b.length cx, .slice Bx x.m.length dx] 43)).heap.size := Nat.lt_of_lt_of_le hbl2' hx1.size
      have q0 := (hx1.cell (p := ⟨b2, _, none⟩) hbl2').trans q0'
      have q1 := (hx1.cell (p := ⟨b2, _, none⟩) hbl2').trans q1'
      have q2 := (hx1.cell (p := ⟨b2, _, none⟩) hbl2').trans q2'
      have q3 := (hx1.cell (p := ⟨b2, _, none⟩) hbl2').trans q3'
      have HEX := Lib.hid (HEXr.out.keep hx1)
      have HEY := Lib.hid (HEYr.out.keep hx1)
      have hOx : RvOk (wr.alloc (.cells #[.int .i64 x.kind, .int .i64 x.n, .slice Ax x.b.length cx, .slice Bx x.m.length dx] 43)) [] x (strV x.b) (.slice Bx x.m.length dx) := ⟨rfl, HEX.out.m⟩
      have hxq := hx.trans hx1
      clear hgb q0' q1' q2' q3' hbl2' p0 p1 p2 p3 HEXr HEYr hx1
      generalize wr.alloc (.cells #[.int .i64 x.kind, .int .i64 x.n, .slice Ax x.b.length cx, .slice Bx x.m.length dx] 43) = wq at *
      generalize wr.heap.size = gb at *
      -- DAG DocSame6
      refine wp_region_dag (E := Ext) (w0 := wq) (Φ := fun i v w => match i with | 0 => (v = evA x (.slice Ax x.b.length cx) (.slice Bx x.m.length dx)) | 1 => (v = evA x (strV x.b) (.slice Bx x.m.length dx)) | 2 => (v = .slice (some ⟨b2, o2, none⟩) n d) | 3 => (v = .int .i64 k) | 4 => (v = .pointer (some ⟨b2, o2 + k * 4, none⟩)) | 5 => (v = evA x (strV x.b) (.slice By x.m.length dy)) | 6 => (v = .bool true) | 7 => (v = .bool false) | _ => True) (show Try.prog.follows .mixedOrders = true from Checked.mixed Try.checked) 28 rfl (by decide +kernel) ?_ ((Below.refl _ _).drew) ?_ ⟨?_, ?_, ?_, ?_, ?_, ?_, ?_, ?_, trivial⟩ ?_
      · intro i v w w' h hE
        match i, h with
        | 0, h => exact h
        | 1, h => exact h
        | 2, h => exact h
        | 3, h => exact h
        | 4, h => exact h
        | 5, h => exact h
        | 6, h => exact h
        | 7, h => exact h
        | _ + 8, _ => trivial
      · exact fun w w' h h' => h.trans h'
      · -- 0: t19 := load 43 t6 
        intro ac wx hE hsz hdf h
        have e6 : ac.tmps[6]? = some (.pointer (some ⟨gb, 0, none⟩)) := by obtain ⟨v, h1, h2⟩ := h 6 (by decide +kernel); exact h1.trans (h2.symm.trans rfl)
        clear h hsz hdf
        have y0 := (hE.cell (p := ⟨gb, _, none⟩) hgl).trans z0; have y1 := (hE.cell (p := ⟨gb, _, none⟩) hgl).trans z1; have y2 := (hE.cell (p := ⟨gb, _, none⟩) hgl).trans z2; have y3 := (hE.cell (p := ⟨gb, _, none⟩) hgl).trans z3
        go_wp2
        exact ⟨_, rfl, rfl, Ext.refl _⟩
      · -- 1: t20 := call { value (Operand.func 20), args := #[t19], argTypes := #[43] } 
        intro ac wx hE hsz hdf h
        have e19 : ac.tmps[19]? = some (evA x (.slice Ax x.b.length cx) (.slice Bx x.m.length dx)) := by obtain ⟨v, h1, h2⟩ := h 19 (by decide +kernel); rw [h1]; exact congrArg some h2
        clear h hsz hdf
        go_wp2_with ((go_at_call 20; refine (lawOf (HEX.out.keep hE)).mono ?_; rintro e w9 ⟨rfl, hb9⟩))
        exact ⟨_, rfl, rfl, hb9⟩
      · -- 2: t21 := move t1 
        intro ac wx hE hsz hdf h
        have e1 : ac.tmps[1]? = some (.slice (some ⟨b2, o2, none⟩) n d) := by obtain ⟨v, h1, h2⟩ := h 1 (by decide +kernel); exact h1.trans (h2.symm.trans rfl)
        clear h hsz hdf
        go_wp2
        exact ⟨_, rfl, rfl, Ext.refl _⟩
      · -- 3: t22 := move t5 
        intro ac wx hE hsz hdf h
        have e5 : ac.tmps[5]? = some (.int .i64 k) := by obtain ⟨v, h1, h2⟩ := h 5 (by decide +kernel); exact h1.trans (h2.symm.trans rfl)
        clear h hsz hdf
        go_wp2
        exact ⟨_, rfl, rfl, Ext.refl _⟩
      · -- 4: t23 := indexAddr 26 t21 t22 
        intro ac wx hE hsz hdf h
        have e21 : ac.tmps[21]? = some (.slice (some ⟨b2, o2, none⟩) n d) := by obtain ⟨v, h1, h2⟩ := h 21 (by decide +kernel); rw [h1]; exact congrArg some h2
        have e22 : ac.tmps[22]? = some (.int .i64 k) := by obtain ⟨v, h1, h2⟩ := h 22 (by decide +kernel); rw [h1]; exact congrArg some h2
        clear h hsz hdf
        go_wp2
        exact ⟨_, rfl, rfl, Ext.refl _⟩
      · -- 5: t24 := load 34 t23 
        intro ac wx hE hsz hdf h
        have e23 : ac.tmps[23]? = some (.pointer (some ⟨b2, o2 + k * 4, none⟩)) := by obtain ⟨v, h1, h2⟩ := h 23 (by decide +kernel); rw [h1]; exact congrArg some h2
        clear h hsz hdf
        have y0 := (hE.cell (p := ⟨b2, _, none⟩) hbl2).trans q0; have y1 := (hE.cell (p := ⟨b2, _, none⟩) hbl2).trans q1; have y2 := (hE.cell (p := ⟨b2, _, none⟩) hbl2).trans q2; have y3 := (hE.cell (p := ⟨b2, _, none⟩) hbl2).trans q3
        go_wp2
        exact ⟨_, rfl, rfl, Ext.refl _⟩
      · -- 6: t25 := call { value (Operand.func 21), args := #[t20, t24], argTypes := #[34, 34] } 
        intro ac wx hE hsz hdf h
        have e20 : ac.tmps[20]? = some (evA x (strV x.b) (.slice Bx x.m.length dx)) := by obtain ⟨v, h1, h2⟩ := h 20 (by decide +kernel); rw [h1]; exact congrArg some h2
        have e24 : ac.tmps[24]? = some (evA x (strV x.b) (.slice By x.m.length dy)) := by obtain ⟨v, h1, h2⟩ := h 24 (by decide +kernel); rw [h1]; exact congrArg some h2
        clear h hsz hdf
        go_wp2_with ((go_at_call 21; refine (refSame (hOx.keep hE) (HEY.out.keep hE) hxm hxm true (by simp)).mono ?_; rintro e w9 ⟨rfl, hb9⟩))
        exact ⟨_, rfl, rfl, hb9⟩
      · -- 7: t26 := unOp UnOp.not 4 t25 
        intro ac wx hE hsz hdf h
        have e25 : ac.tmps[25]? = some (.bool true) := by obtain ⟨v, h1, h2⟩ := h 25 (by decide +kernel); rw [h1]; exact congrArg some h2
        clear h hsz hdf
        go_wp2
        exact ⟨_, rfl, rfl, Ext.refl _⟩
      · intro ac w9 hE hsz hdf h hrest
        obtain ⟨v0, s0, g0⟩ := h 0 _ rfl
        have e0 := g0 19 rfl
        obtain rfl : v0 = evA x (.slice Ax x.b.length cx) (.slice Bx x.m.length dx) := s0
        obtain ⟨v1, s1, g1⟩ := h 1 _ rfl
        have e1 := g1 20 rfl
        obtain rfl : v1 = evA x (strV x.b) (.slice Bx x.m.length dx) := s1
        obtain ⟨v2, s2, g2⟩ := h 2 _ rfl
        have e2 := g2 21 rfl
        obtain rfl : v2 = .slice (some ⟨b2, o2, none⟩) n d := s2
        obtain ⟨v3, s3, g3⟩ := h 3 _ rfl
        have e3 := g3 22 rfl
        obtain rfl : v3 = .int .i64 k := s3
        obtain ⟨v4, s4, g4⟩ := h 4 _ rfl
        have e4 := g4 23 rfl
        obtain rfl : v4 = .pointer (some ⟨b2, o2 + k * 4, none⟩) := s4
        obtain ⟨v5, s5, g5⟩ := h 5 _ rfl
        have e5 := g5 24 rfl
        obtain rfl : v5 = evA x (strV x.b) (.slice By x.m.length dy) := s5
        obtain ⟨v6, s6, g6⟩ := h 6 _ rfl
        have e6 := g6 25 rfl
        obtain rfl : v6 = .bool true := s6
        obtain ⟨v7, s7, g7⟩ := h 7 _ rfl
        have e7 := g7 26 rfl
        obtain rfl : v7 = .bool false := s7
        have ha := act_of [(19, evA x (.slice Ax x.b.length cx) (.slice Bx x.m.length dx)), (20, evA x (strV x.b) (.slice Bx x.m.length dx)), (21, .slice (some ⟨b2, o2, none⟩) n d), (22, .int .i64 k), (23, .pointer (some ⟨b2, o2 + k * 4, none⟩)), (24, evA x (strV x.b) (.slice By x.m.length dy)), (25, .bool true), (26, .bool false)] rfl hsz hdf (by intro p hp; simp only [List.mem_cons, List.not_mem_nil, or_false] at hp; rcases hp with rfl | rfl | rfl | rfl | rfl | rfl | rfl | rfl <;> first | exact e0 | exact e1 | exact e2 | exact e3 | exact e4 | exact e5 | exact e6 | exact e7) hrest
        clear h hrest hsz hdf e0 e1 e2 e3 e4 e5 e6 e7 g0 g1 g2 g3 g4 g5 g6 g7
        subst ha
        simp only [List.foldl_cons, List.foldl_nil, Act.put, List.setIfInBounds_toArray, List.set_cons_succ, List.set_cons_zero]
      -- GAD DocSame6
        have hxx := hxq.trans hE
        clear hE
        go_wp2
        go_roundw
        case rel => exact ⟨k + 1, hlt, by go_num, hxx⟩
        case measure => simp [intOf]; omega
    · obtain rfl : k = n := by omega
      go_wp2
      go_ret
      exact ⟨rfl, hx⟩
set_option maxHeartbeats 2000000 in
set_option maxRecDepth 20000 in
theorem refRight {w : World} {X : List Nat} {e : Ev} {vb vm : Value} (h : RvOk w X e vb vm) (hb6 : e.b.length ≤ 1000000) (hm6 : e.m.length ≤ 1000000) (r : Bool) (hrb : rightE e = r) :
    Calls Try.prog 24 #[evA e vb vm] w fun r' w' => r' = .returned (.bool r) ∧ Ext w w' := by
  obtain ⟨B, d, rfl, rfl, hmd, hdm, hrd⟩ := h.open
  obtain ⟨k, en, b, L⟩ := e
  unfold evA strV
  unfold maxLen at hdm
  simp only at *
  have HX1 := Ext.new1 w (.cells #[.int .i64 k, .int .i64 en, .string ⟨b.toArray⟩, .slice B L.length d] 34)
  have HRD := Lib.hid (hrd.keep HX1)
  have hsum : wrap64 ((b.length : Int) + L.length) = ((b.length + L.length : Nat) : Int) := by unfold wrap64; omega
  have hbe : (0 < b.length + L.length) = ¬ (b = [] ∧ L = []) := by
    cases b <;> cases L <;> simp <;> omega
  have HRB := Lib.hid hrb
  have HBE := Lib.hid hbe
  clear h hrd hrb hbe
  by_cases h1 : k < 1
  · have hr : r = false := by rw [← HRB.out]; exact right_no (.inl h1)
    subst hr
    go_enter Try.func24, Try.ntmps24
    go_wp2
    go_ret
    exact ⟨rfl, HX1⟩
  by_cases h2 : 4 < k
  · have hr : r = false := by rw [← HRB.out]; exact right_no (.inr (.inl h2))
    subst hr
    go_enter Try.func24, Try.ntmps24
    go_wp2
    go_ret
    exact ⟨rfl, HX1⟩
  by_cases h3 : 1024 < b.length
  · have hr : r = false := by rw [← HRB.out]; exact right_no (.inr (.inr (.inl h3)))
    subst hr
    go_enter Try.func24, Try.ntmps24
    go_wp2
    go_ret
    exact ⟨rfl, HX1⟩
  by_cases h4 : en < 0
  · have hr : r = false := by rw [← HRB.out]; exact right_no (.inr (.inr (.inr (.inl h4))))
    subst hr
    go_enter Try.func24, Try.ntmps24
    go_wp2
    go_ret
    exact ⟨rfl, HX1⟩
  by_cases h5 : 9999 < en
  · have hr : r = false := by rw [← HRB.out]; exact right_no (.inr (.inr (.inr (.inr (.inl h5)))))
    subst hr
    go_enter Try.func24, Try.ntmps24
    go_wp2
    go_ret
    exact ⟨rfl, HX1⟩
  -- what is left: the kinds, and the marks
  have hloop : (k ≠ 1 → b = [] ∧ L = []) → (k = 1 ∨ k = 4 → en = 0) → risA (-1) b.length L = r := fun h6 h7 => by
    rw [← HRB.out]; exact (right_ris (e := ⟨k, en, b, L⟩) h1 h2 h3 h4 h5 h6 h7).symm
  by_cases hk1 : k = 1
  · subst hk1
    by_cases hn0 : en = 0
    · subst hn0
      have HR := Lib.hid (hloop (by simp) (by simp))
      have hgb := Blk.new w 34 #[.int .i64 1, .int .i64 0, .string ⟨b.toArray⟩, .slice B L.length d]
      have z2 : (w.alloc (.cells #[.int .i64 1, .int .i64 0, .string ⟨b.toArray⟩, .slice B L.length d] 34)).cell? ⟨w.heap.size, 2, none⟩ = some (.string ⟨b.toArray⟩) := hgb.cell 2
      clear hloop hsum HRB HBE hgb
      go_enter Try.func24, Try.ntmps24
      go_wp2
      generalize w.heap.size = g at *
      generalize w.alloc (.cells #[.int .i64 1, .int .i64 0, .string ⟨b.toArray⟩, .slice B L.length d] 34) = w1 at *
      go_loop [3, 61] (fun a i => ∃ (j : Nat) (last : Int), j ≤ L.length ∧ i = .int .i64 j ∧ a = .int .i64 last ∧ risA last b.length (L.drop j) = r) (fun _ i => L.length - (intOf i).toNat)
      case atStart => exact ⟨0, -1, Nat.zero_le _, rfl, rfl, HR.out⟩
      case round =>
        obtain ⟨j, last, hj, rfl, rfl, hris⟩ := hrel
        by_cases hlt : j < L.length
        · obtain ⟨b1, o1, rfl, _, hc⟩ := HRD.out.2 (by simp [intsV]; omega)
          obtain ⟨x, hx⟩ : ∃ x, L[j]? = some x := ⟨_, List.getElem?_eq_getElem hlt⟩
          have hxe : L[j] = x := by rw [List.getElem?_eq_getElem hlt] at hx; exact Option.some.inj hx
          have hcx : w1.cell? ⟨b1, o1 + j, none⟩ = some (.int .i64 x) := hc j _ (by simp [intsV, hx])
          rw [List.drop_eq_getElem_cons hlt, hxe] at hris
          simp only [risA] at hris
          have HRS := Lib.hid hris
          clear hx hxe hris hc
          by_cases h8 : x ≤ last
          · have hf : r = false := by rw [← HRS.out, decide_eq_false (by omega)]; rfl
            subst hf
            go_wp2
            go_ret
            exact ⟨rfl, HX1⟩
          · by_cases h9 : x < (b.length : Int)
            · have hn := HRS.out
              rw [decide_eq_true (by omega : last < x), decide_eq_true h9] at hn
              have HN := Lib.hid (show risA x b.length (L.drop (j + 1)) = r from hn)
              clear hn
              go_wp2
              go_round
              case rel => exact ⟨j + 1, x, hlt, by go_num, rfl, HN.out⟩
              case measure => simp [intOf]; omega
            · have hf : r = false := by rw [← HRS.out, decide_eq_false h9]; simp
              subst hf
              go_wp2
              go_ret
              exact ⟨rfl, HX1⟩
        · have hjl : j = L.length := by omega
          have ht : r = true := by rw [← hris, List.drop_of_length_le (by omega)]; rfl
          subst ht
          clear hris
          go_wp2
          go_ret
          exact ⟨rfl, HX1⟩
    · have hr : r = false := by rw [← HRB.out]; exact right_no (.inr (.inr (.inr (.inr (.inr (.inr ⟨.inl rfl, hn0⟩))))))
      subst hr
      have hn0' : (en == 0) = false := by simpa using hn0
      clear hloop hn0
      go_enter Try.func24, Try.ntmps24
      go_wp2
      go_ret
      exact ⟨rfl, HX1⟩
  · have hk1' : (k == 1) = false := by simpa using hk1
    by_cases h6 : b = [] ∧ L = []
    · obtain ⟨rfl, rfl⟩ := h6
      by_cases h7 : k = 4 ∧ en ≠ 0
      · obtain ⟨rfl, hn0⟩ := h7
        have hr : r = false := by rw [← HRB.out]; exact right_no (.inr (.inr (.inr (.inr (.inr (.inr ⟨.inr rfl, hn0⟩))))))
        subst hr
        have hn0' : (en == 0) = false := by simpa using hn0
        clear hloop hn0
        go_enter Try.func24, Try.ntmps24
        go_wp2
        go_ret
        exact ⟨rfl, HX1⟩
      · have hr := hloop (fun _ => ⟨rfl, rfl⟩) (fun h => by omega)
        obtain rfl : r = true := hr.symm
        clear hloop hr HBE HRB hsum
        by_cases hk4 : k = 4
        · obtain rfl : en = 0 := by omega
          subst hk4
          go_enter Try.func24, Try.ntmps24
          go_wp2
          go_loopw [3, 61] (fun a i wr => i = .int .i64 0 ∧ Ext w wr) (fun _ _ _ => 0)
          case atStart => exact ⟨rfl, HX1⟩
          case round =>
            obtain ⟨rfl, hx⟩ := hrel
            go_wp2
            go_ret
            exact ⟨rfl, hx⟩
        · have hk4' : (k == 4) = false := by simpa using hk4
          clear hk4 hk1
          go_enter Try.func24, Try.ntmps24
          go_wp2
          go_loopw [3, 61] (fun a i wr => i = .int .i64 0 ∧ Ext w wr) (fun _ _ _ => 0)
          case atStart => exact ⟨rfl, HX1⟩
          case round =>
            obtain ⟨rfl, hx⟩ := hrel
            go_wp2
            go_ret
            exact ⟨rfl, hx⟩
    · have hr : r = false := by
        rw [← HRB.out]
        refine right_no (.inr (.inr (.inr (.inr (.inr (.inl ⟨hk1, ?_⟩))))))
        by_cases hb : b = []
        · exact .inr fun hL => h6 ⟨hb, hL⟩
        · exact .inl hb
      subst hr
      have hpos : 0 < b.length + L.length := by rw [HBE.out]; exact h6
      clear hloop h6 hk1
      go_enter Try.func24, Try.ntmps24
      go_wp2
      go_ret
      exact ⟨rfl, HX1⟩
end Go.Proofs.Ytnbdmlpnoiljdaa
