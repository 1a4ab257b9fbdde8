/- layer 39's document: Atoms. -/
import Derived.Test.YtnbdmlpnoiljdaaRef4
import Derived.Test.YtnbdmlpnoiljdaaEv5
namespace Go.Proofs.Ytnbdmlpnoiljdaa
open Go Go.RowKit

theorem atomsE_len9 (e : Ev) : (atomsE e).length ≤ 9999 := by
  by_cases h : rightE e = true
  · by_cases hs : sizeE e < 0
    · rw [atomsE_whole h hs]; simp
    · rw [atomsE_right h hs]; have := size_le h; simp; omega
  · rw [atomsE_wrong (by simpa using h)]; simp
theorem atoms_len9 : ∀ (l : List Ev), (atoms l).length ≤ 9999 * l.length := by
  intro l
  induction l with
  | nil => simp [atoms]
  | cons e r ih =>
    have h1 := atomsE_len9 e
    have h2 : atoms (e :: r) = atomsE e ++ atoms r := rfl
    rw [h2, List.length_append, List.length_cons]
    omega

/-- What an append onto a row leaves alone. -/
structure RKeep (B : Nat) (X : List Nat) (w w' : World) : Prop where
  bl : Below B w w'
  more : ∃ Y : List Nat, (∀ y ∈ Y, B ≤ y ∧ y ∉ X) ∧ Chg Y w w'
  at_ : ∀ (g : Nat) (e : TypeId) (cs : List Value), g ∈ X → Blk w g e cs → Blk w' g e cs
theorem RutAt.addX {w : World} {B : Nat} {X X' : List Nat} {v : Value} {es : List Ev} (h : RutAt w B X v es) (hx : ∀ x ∈ X', x ∈ X ∨ w.heap.size ≤ x) : RutAt w B X' v es := by
  have hlt := h.own_lt
  obtain ⟨vs, h1, h2, h3, h4⟩ := h
  refine ⟨vs, h1, h2, fun k hk hm => ?_, fun j e u he hu => (h4 j e u he hu).step (.refl [] w) (by simp) fun x hm => ?_⟩
  · rcases hx k hm with h | h
    · exact h3 k hk h
    · have := (hlt k hk).2; omega
  · rcases List.mem_append.1 hm with h | h
    · exact .inl (List.mem_append_left _ h)
    · rcases hx x h with h | h
      · exact .inl (List.mem_append_right _ h)
      · exact .inr h
/-- An event is put behind a row. -/
theorem wpList_appR {w : World} {ops : Array Oper} {rest : List Oper} {o : Oper} {a : Act} {Q : Exit → Act → World → Prop} (hgd : o.guard = none) (s x : Operand)
    (ho : o.op = .call { callee := .builtin .append, args := #[s, x], argTypes := #[26, 26] })
    {B : Nat} {X : List Nat} {v : Value} {es : List Ev} {e : Ev} {vb vm : Value} (hR : RutAt w B X v es) (hB : B ≤ w.heap.size) (hX : ∀ x ∈ X, x < w.heap.size) (he : RvOk w (v.ownBlock.toList ++ X) e vb vm) {k : Nat} (hkl : es.length = k) (hl : k ≤ 1000000000)
    (hs : a.eval s = v) {g : Nat} (hg : g = w.heap.size) {cs : List Value} (hcs : cs = evV e vb vm) (hx : a.eval x = .slice (some ⟨g, 0, none⟩) 1 1)
    (cont : ∀ A' c' w', RutAt w' B X (.slice A' (k + 1) c') (es ++ [e]) → RKeep B X w w' → wpList Try.prog ops Q rest (a.put o.dst (.slice A' (k + 1) c')) w') :
    wpList Try.prog ops Q (o :: rest) a (w.alloc (.cells cs.toArray 34)) := by
  subst hg hcs hkl
  have hx1 := Ext.new1 w (.cells (evV e vb vm).toArray 34)
  have hlt := hR.own_lt
  obtain ⟨vs, h1, h2, h3, h4⟩ := hR
  refine wpList_app2 (base := B) Try.elemRv hgd s x ho hs (own_ext h2 hx1) (Nat.le_trans hB hx1.size) hx (rd_newS w 4 1 (evV e vb vm) 34 rfl) ?_ (by omega) (by unfold maxLen; omega) ?_
  · have := he.b
    obtain ⟨A, n, c, hm, _⟩ := he.m
    subst hm this
    simp [evV, strV, Value.oneCell']
  · intro v' w' hown hg _ hat
    obtain ⟨A', c', rfl, _, _, _⟩ := own_rd hown
    refine cont A' c' w' (RutAt.push (w := w.alloc (.cells (evV e vb vm).toArray 34)) rfl vs h1 h3 (fun j e' u p q => (h4 j e' u p q).keep hx1) (he.keep hx1) (fun y hy => Nat.lt_of_lt_of_le (hX y hy) hx1.size) hown hg hat) ⟨hg.below (hx1.mono hB) (Nat.le_refl _) (Nat.le_trans hB hx1.size), ⟨v.ownBlock.toList, fun y hy => ⟨(hlt y (by simpa using hy)).1, h3 y (by simpa using hy)⟩, (Chg.of_ext hx1).trans hg.chg⟩, fun k e' cs' hk hb => (hb.keep hx1).chg hg.chg fun hm => ?_⟩
    simp at hm
    exact h3 k hm hk

theorem RKeep.ext {B : Nat} {X : List Nat} {w w1 w2 : World} (h : RKeep B X w1 w2) (hx : Ext w w1) (hB : w.heap.size = B) : Ext w w2 := by
  subst hB
  exact Below.trans hx h.bl
/-- The first atoms of a right event. -/
def partsE (e : Ev) (j : Nat) : List Ev := (List.range j).map fun q => partE e q (q + 1)
theorem parts_succ (e : Ev) (j : Nat) : partsE e (j + 1) = partsE e j ++ [partE e j (j + 1)] := by unfold partsE; rw [List.range_succ, List.map_append]; rfl
theorem parts_len (e : Ev) (j : Nat) : (partsE e j).length = j := by simp [partsE]
theorem part3 (n : Int) (q : Nat) : partE ⟨3, n, [], []⟩ q (q + 1) = ⟨3, 1, [], []⟩ := by unfold partE; simp; omega
theorem part1 (b : List UInt8) (m : List Int) (q : Nat) : partE ⟨1, 0, b, m⟩ q (q + 1) = ⟨1, 0, (b.take (q + 1)).drop q, marksIn m q (q + 1)⟩ := by unfold partE; rw [if_neg (by simp)]
theorem RutAt.obs {w : World} {B : Nat} {X : List Nat} {v : Value} {es : List Ev} (h : RutAt w B X v es) (hX : ∀ x ∈ X, B ≤ x) : ∀ y ∈ v.ownBlock.toList ++ X, B ≤ y := fun y hy => by
  rcases List.mem_append.1 hy with hy | hy
  · exact (h.own_lt y (by simpa using hy)).1
  · exact hX y hy

theorem RvOk.anyX {w : World} {X X' : List Nat} {e : Ev} {vb vm : Value} (h : RvOk w X e vb vm) (hm : e.m = []) : RvOk w X' e vb vm := by
  obtain ⟨h1, A, n, c, h2, h3, h4, h5, _⟩ := h
  have hn : n = 0 := by have := h5.1; rw [hm] at this; simpa [intsV] using this.symm
  exact ⟨h1, A, n, c, h2, h3, h4, h5, fun hp => by omega⟩

/-- The marks of an atom, looked for. -/
def hitM (m : List Int) (j q : Nat) : List Int := if (j : Int) ∈ m.take q then [0] else []
theorem hitM_hit {m : List Int} {j q : Nat} {x : Int} (h : m[q]? = some x) (hx : x = j) : hitM m j (q + 1) = [0] := by
  unfold hitM
  rw [List.take_add_one, h, if_pos (by simp [hx])]
theorem hitM_miss {m : List Int} {j q : Nat} {x : Int} (h : m[q]? = some x) (hx : ¬ x = j) : hitM m j (q + 1) = hitM m j q := by
  unfold hitM
  rw [List.take_add_one, h]
  have : ¬ (j : Int) = x := fun e => hx e.symm
  simp [this]
theorem hitM_all {m : List Int} {many : Nat} (h : risA (-1) many m = true) (j : Nat) : hitM m j m.length = marksIn m j (j + 1) := by
  unfold hitM
  rw [List.take_length]
  by_cases hj : (j : Int) ∈ m
  · rw [if_pos hj]
    rcases marks_one h j with e | e
    · exfalso
      unfold marksIn at e
      rw [List.map_eq_nil_iff, List.filter_eq_nil_iff] at e
      have := e _ hj
      simp at this
      omega
    · exact e.symm
  · rw [if_neg hj]
    rcases marks_one h j with e | e
    · exact e.symm
    · exfalso
      have h0 : (0 : Int) ∈ marksIn m j (j + 1) := by rw [e]; simp
      unfold marksIn at h0
      obtain ⟨x, hx, hx0⟩ := List.mem_map.1 h0
      obtain ⟨hm, hd⟩ := List.mem_filter.1 hx
      have : x = j := by omega
      exact hj (this ▸ hm)

set_option maxHeartbeats 4000000 in
set_option maxRecDepth 20000 in
/-- The document's atoms. -/
theorem refAtoms {w : World} {es : List Ev} {A : Option Addr} {n c : Nat} (X : List Nat) (hX : ∀ x ∈ X, x < w.heap.size) (hr : RvsRd w [] A n es) (hn : n ≤ 100000) (hnc : n ≤ c) (hsm : ∀ e ∈ es, e.b.length ≤ 1000000 ∧ e.m.length ≤ 1000000) :
    Calls Try.prog 10 #[.slice A n c] w fun r w' => ∃ v, r = .returned v ∧ RutAt w' w.heap.size X v (atoms es) ∧ Ext w w' := by
  have hl : es.length = n := by obtain ⟨vs, _, h, _⟩ := hr; exact h
  have HR := Lib.hid hr
  have HL := Lib.hid hl
  have HSM := Lib.hid hsm
  clear hr hl hsm
  obtain ⟨B, hB⟩ : ∃ B, w.heap.size = B := ⟨_, rfl⟩
  rw [hB] at hX ⊢
  have HB := Lib.hid hB
  have HXX := Lib.hid hX
  clear hB hX
  go_enter Try.func10, Try.ntmps10
  go_wp2
  go_loopw [3, 14] (fun v i wr => ∃ (k : Nat) (D : List Ev), k ≤ n ∧ i = .int .i64 k ∧ D = atoms (es.take k) ∧ RutAt wr B X v D ∧ Ext w wr) (fun _ i _ => n - (intOf i).toNat)
  case atStart =>
    have h0 := own_empty w 34 4
    have h1 := own_mono (base' := B) h0 (by rw [HB.out]; exact Nat.le_refl _)
    exact ⟨0, [], Nat.zero_le _, rfl, rfl, ⟨[], rfl, by simpa [evCells] using h1, fun q hq hm => by have := HXX.out q hm; have := HB.out; simp [Value.ownBlock] at hq; omega, fun j e u h => by simp at h⟩, Ext.new1 _ _⟩
  case round =>
    obtain ⟨k, D, hk, rfl, hD, hO, hx⟩ := hrel
    have hBw : B ≤ wr.heap.size := by rw [← HB.out]; exact hx.size
    have HXW := Lib.hid (show ∀ x ∈ X, x < wr.heap.size from fun x hx => Nat.lt_of_lt_of_le (HXX.out x hx) hBw)
    by_cases hlt : k < n
    · obtain ⟨e, he⟩ : ∃ e, es[k]? = some e := ⟨_, List.getElem?_eq_getElem (by rw [HL.out]; exact hlt)⟩
      obtain ⟨b1, o1, B1, d1, rfl, hbl, p0', p1', p2', p3', hev', _⟩ := HR.out.at4 he
      have p0 : wr.cell? ⟨b1, o1 + k * 4, none⟩ = some (.int .i64 e.kind) := (hx.cell (p := ⟨b1, _, none⟩) hbl).trans p0'
      have p1 : wr.cell? ⟨b1, o1 + k * 4 + 1, none⟩ = some (.int .i64 e.n) := (hx.cell (p := ⟨b1, _, none⟩) hbl).trans p1'
      have p2 : wr.cell? ⟨b1, o1 + k * 4 + 2, none⟩ = some (.string ⟨e.b.toArray⟩) := (hx.cell (p := ⟨b1, _, none⟩) hbl).trans p2'
      have p3 : wr.cell? ⟨b1, o1 + k * 4 + 3, none⟩ = some (.slice B1 e.m.length d1) := (hx.cell (p := ⟨b1, _, none⟩) hbl).trans p3'
      obtain ⟨hbl6, hml6⟩ := HSM.out e (List.mem_of_getElem? he)
      have hDl : D.length ≤ 999900000 := by
        have := atoms_len9 (es.take k)
        rw [hD]
        rw [List.length_take] at this
        omega
      have hat : atoms (es.take (k + 1)) = D ++ atomsE e := by rw [take_snoc he, atoms_snoc, hD]
      have HAT := Lib.hid hat
      have hev : ∀ X', (∀ y ∈ X', B ≤ y) → ∀ w', Ext w w' → RvOk w' X' e (strV e.b) (.slice B1 e.m.length d1) := fun X' hX' w' hw' => hev'.step (Y := []) (.of_ext hw') (by simp) (fun y hy => .inr (by rw [HB.out]; exact hX' y hy))
      obtain ⟨Av, cv, rfl, hcv, hcm⟩ := hO.len
      have hob : ∀ y ∈ (Value.slice Av D.length cv).ownBlock.toList, B ≤ y := fun y hy => (hO.own_lt y (by simpa using hy)).1
      have hobl : ∀ y ∈ (Value.slice Av D.length cv).ownBlock.toList, y < wr.heap.size := fun y hy => (hO.own_lt y (by simpa using hy)).2
      have HOB := Lib.hid hob
      have HOBL := Lib.hid hobl
      have HO := Lib.hid hO
      have HEV := Lib.hid hev
      clear hat hev hev' hD hO he hob hobl p0' p1' p2' p3'
      obtain ⟨r, hrt⟩ : ∃ r, rightE e = r := ⟨_, rfl⟩
      have HRT := Lib.hid hrt
      clear hrt
      have hx1 := Ext.new1 wr (.cells #[.int .i64 e.kind, .int .i64 e.n, .string ⟨e.b.toArray⟩, .slice B1 e.m.length d1] 34)
      have hb1 := Blk.new wr 34 #[.int .i64 e.kind, .int .i64 e.n, .string ⟨e.b.toArray⟩, .slice B1 e.m.length d1]
      have HX1 := Lib.hid hx1
      have HB1 := Lib.hid hb1
      clear hx1 hb1
      cases r with
      | false =>
        go_wp2_with (go_at_call 24; refine (refRight (HEV.out [] (by simp) _ (hx.trans HX1.out)) hbl6 hml6 false HRT.out).mono ?_; rintro _ w2 ⟨rfl, hx2⟩)
        have hx3 := HX1.out.trans hx2
        exact ⟨⟨k + 1, D, hlt, by go_num, by rw [HAT.out, atomsE_wrong HRT.out]; simp, HO.out.keep hx3, hx.trans hx3⟩, by simp [intOf]; omega⟩
      | true =>
        by_cases hk1 : e.kind = 1
        · obtain ⟨hn0, hb10, hris⟩ := right1 HRT.out hk1
          obtain ⟨ek, en, eb, em⟩ := e
          simp only at *
          subst hk1 hn0
          have HRIS := Lib.hid hris
          have hsz : ¬ sizeE ⟨1, 0, eb, em⟩ < 0 := by rw [size1 rfl]; simp
          have hatE : atomsE ⟨1, 0, eb, em⟩ = partsE ⟨1, 0, eb, em⟩ eb.length := by rw [atomsE_right HRT.out hsz, size1 rfl]; simp [partsE]
          have HATE := Lib.hid hatE
          clear hris hsz hatE
          go_wp2_with (go_at_call 24; refine (refRight (HEV.out [] (by simp) _ (hx.trans HX1.out)) hbl6 hml6 true HRT.out).mono ?_; rintro _ w2 ⟨rfl, hx2⟩; have z0 : w2.cell? ⟨wr.heap.size, 0, none⟩ = some (.int .i64 1) := (HB1.out.keep hx2).cell 0)
          have hx3 := HX1.out.trans hx2
          have hb3 := HB1.out.keep hx2
          have hO3 := (HO.out.keep hx3)
          have hO4 : RutAt w2 B (wr.heap.size :: X) (.slice Av D.length cv) D := (HO.out.addX (X' := wr.heap.size :: X) (by intro x hx; simp at hx; rcases hx with h | h; exact .inr (by omega); exact .inl h)).keep hx3
          have hxw2 := hx.trans hx3
          generalize hg5 : wr.heap.size = g5 at *
          have HG5 := Lib.hid hg5
          clear hg5 z0 hx2 hx3 HX1 HB1 HO hO3 p0 p1 p2 p3
          go_loopw [3, 6] (fun v i wj => ∃ j : Nat, j ≤ eb.length ∧ i = .int .i64 j ∧ RutAt wj B (g5 :: X) v (D ++ partsE ⟨1, 0, eb, em⟩ j) ∧ Blk wj g5 34 [.int .i64 1, .int .i64 0, .string ⟨eb.toArray⟩, .slice B1 em.length d1] ∧ Ext w wj) (fun _ i _ => eb.length - (intOf i).toNat)
          case atStart => exact ⟨0, Nat.zero_le _, rfl, by simpa [partsE] using hO4, hb3, hxw2⟩
          case round =>
            clear hb3 hO4 hxw2
            obtain ⟨j, hj, rfl, hOj, hbj, hxj⟩ := hrel
            obtain ⟨Aj, cj, rfl, hcj, hcmj⟩ := hOj.len
            have hlen : (D ++ partsE ⟨1, 0, eb, em⟩ j).length = D.length + j := by rw [List.length_append, parts_len]
            rw [hlen] at hOj hcj ⊢
            have HLEN := Lib.hid hlen
            have z2 : wr.cell? ⟨g5, 2, none⟩ = some (.string ⟨eb.toArray⟩) := hbj.cell 2
            have z3 : wr.cell? ⟨g5, 3, none⟩ = some (.slice B1 em.length d1) := hbj.cell 3
            have HOJ := Lib.hid hOj
            have HBJ := Lib.hid hbj
            have hgj := hbj.lt
            have hBj : B ≤ wr.heap.size := by rw [← HB.out]; exact hxj.size
            clear hlen hOj hbj
            by_cases hjN : j < eb.length
            · go_wp2
              have hx7 := Ext.new1 wr (.cells #[.int .i64 1, .int .i64 0, .string ⟨((eb.take (j + 1)).drop j).toArray⟩, .slice none 0 0] 34)
              have hb7 : Blk (wr.alloc (.cells #[.int .i64 1, .int .i64 0, .string ⟨((eb.take (j + 1)).drop j).toArray⟩, .slice none 0 0] 34)) wr.heap.size 34 [.int .i64 1, .int .i64 0, .string ⟨((eb.take (j + 1)).drop j).toArray⟩, .slice none 0 0] := Blk.new wr 34 #[.int .i64 1, .int .i64 0, .string ⟨((eb.take (j + 1)).drop j).toArray⟩, .slice none 0 0]
              have hO7 := (HOJ.out.addX (X' := g5 :: wr.heap.size :: X) (by intro x hx; simp at hx; rcases hx with h | h | h; exact .inl (by simp [h]); exact .inr (by omega); exact .inl (by simp [h]))).keep hx7
              have hb57 := HBJ.out.keep hx7
              have hxw7 := hxj.trans hx7
              generalize wr.alloc (.cells #[.int .i64 1, .int .i64 0, .string ⟨((eb.take (j + 1)).drop j).toArray⟩, .slice none 0 0] 34) = w7 at *
              have hg7w : w.heap.size ≤ wr.heap.size := hxj.size
              generalize hg7 : wr.heap.size = g7 at *
              have HO7 := Lib.hid hO7
              have HB57 := Lib.hid hb57
              have hol := fun y hy => (hO7.own_lt y hy).2
              have HOL := Lib.hid hol
              have h7l := hb7.lt
              clear hg7 hx7 HOJ HBJ z2 z3 hO7 hb57 hol
              go_loopw [46] (fun iq wq => ∃ (q : Nat) (Am : Option Addr) (nm cm : Nat), q ≤ em.length ∧ iq = .int .i64 q ∧ Chg [g7] w7 wq ∧ Blk wq g7 34 [.int .i64 1, .int .i64 0, .string ⟨((eb.take (j + 1)).drop j).toArray⟩, .slice Am nm cm] ∧ RdG wq ((Value.slice Aj (D.length + j) cj).ownBlock.toList ++ (g5 :: g7 :: X)) (.slice Am nm cm) (intsV (hitM em j q))) (fun iq _ => em.length - (intOf iq).toNat)
              case atStart =>
                refine ⟨0, none, 0, 0, Nat.zero_le _, rfl, Chg.refl _ _, hb7, ?_⟩
                have : hitM em j 0 = [] := by simp [hitM]
                rw [this]
                exact RdG.nil
              case round =>
                clear hb7
                obtain ⟨q, Am, nm, cm, hq, rfl, hcq, hbq, hmq⟩ := hrel
                have hxwq : Ext w wr := hcq.below hxw7 hxw7.size (by simp; omega)
                have h7q := hcq.size
                by_cases hqm : q < em.length
                · obtain ⟨x, hxq⟩ : ∃ x, em[q]? = some x := ⟨_, List.getElem?_eq_getElem hqm⟩
                  obtain ⟨_, _, _, heq, _, _, hrd, _⟩ := (HEV.out [] (by simp) wr hxwq).m
                  cases heq
                  obtain ⟨b3, o3, rfl, _, hc3⟩ := hrd.2 (by simp [intsV]; omega)
                  have hcx : wr.cell? ⟨b3, o3 + q, none⟩ = some (.int .i64 x) := hc3 q _ (by simp [intsV, hxq])
                  have y3 : wr.cell? ⟨g7, 3, none⟩ = some (.slice Am nm cm) := hbq.cell 3
                  have f3 := hbq.frozen 3
                  have HXQ := Lib.hid hxq
                  have HCQ := Lib.hid hcq
                  have HBQ := Lib.hid hbq
                  have HMQ := Lib.hid hmq
                  have h7r := hbq.lt
                  clear hxq hrd hc3 hcq hbq hmq
                  by_cases hxe : x = (j : Int)
                  · subst hxe
                    go_wp2
                    refine ⟨⟨q + 1, _, 1, 1, hqm, by go_num, (HCQ.out.setCell (by simp) _).alloc _, by simpa using (HBQ.out.set_ 3 (.slice (some ⟨wr.heap.size, 0, none⟩) 1 1)).alloc (.cells #[.int .i64 0] 3), ?_⟩, by simp [intOf]; omega⟩
                    rw [hitM_hit HXQ.out rfl]
                    refine ⟨_, 1, 1, rfl, Nat.le_refl _, by unfold maxLen; omega, rd_at (by simp), fun _ b o s e hb => ?_⟩
                    cases e
                    rcases List.mem_append.1 hb with hb | hb
                    · have := HOL.out _ (by simpa using hb); omega
                    · simp at hb
                      rcases hb with hb | hb | hb
                      · omega
                      · omega
                      · have := HXX.out _ hb; omega
                  · have hne : (x == (j : Int)) = false := by simpa using hxe
                    have hms := hitM_miss HXQ.out hxe
                    have HMS := Lib.hid hms
                    clear hxe hms
                    go_wp2
                    go_roundw
                    case rel => exact ⟨q + 1, Am, nm, cm, hqm, by go_num, HCQ.out, HBQ.out, by rw [HMS.out]; exact HMQ.out⟩
                    case measure => simp [intOf]; omega
                · obtain rfl : q = em.length := by omega
                  rw [hitM_all HRIS.out] at hmq
                  have y0 : wr.cell? ⟨g7, 0, none⟩ = some (.int .i64 1) := hbq.cell 0
                  have y1 : wr.cell? ⟨g7, 1, none⟩ = some (.int .i64 0) := hbq.cell 1
                  have y2 : wr.cell? ⟨g7, 2, none⟩ = some (.string ⟨((eb.take (j + 1)).drop j).toArray⟩) := hbq.cell 2
                  have y3 : wr.cell? ⟨g7, 3, none⟩ = some (.slice Am nm cm) := hbq.cell 3
                  have HOQ := Lib.hid (HO7.out.chg hcq (by simp))
                  have HB5Q := Lib.hid (HB57.out.chg hcq (by simp; omega))
                  have h7r := hbq.lt
                  have HMQ := Lib.hid hmq
                  have hBq : B ≤ wr.heap.size := by omega
                  clear hcq hbq hmq HO7 HB57
                  go_wp2_with (at_builtin; go_loud (refine wpList_appR rfl (.tmp 56) (.tmp 58) rfl (e := ⟨1, 0, (eb.take (j + 1)).drop j, marksIn em j (j + 1)⟩) (vb := .string ⟨((eb.take (j + 1)).drop j).toArray⟩) (vm := .slice Am nm cm) HOQ.out hBq (by intro x hx; simp at hx; rcases hx with h | h | h; omega; omega; exact Nat.lt_of_lt_of_le (HXX.out x h) hBq) ⟨rfl, HMQ.out⟩ HLEN.out (by omega) rfl rfl rfl rfl ?_); intro A4 c4 w4 hR4 hK4; have HR4 := Lib.hid hR4; have HK4 := Lib.hid hK4; clear hR4 hK4)
                  have hrel4 : RutAt w4 B (g5 :: X) (.slice A4 (D.length + j + 1) c4) (D ++ partsE ⟨1, 0, eb, em⟩ (j + 1)) := by
                    rw [parts_succ, part1, ← List.append_assoc]
                    exact HR4.out.weak (Nat.le_refl _) (by intro x hx; simp at hx ⊢; rcases hx with h | h; exact .inl h; exact .inr (.inr h))
                  exact ⟨⟨j + 1, hjN, by go_num, hrel4, HK4.out.at_ _ _ _ (by simp) HB5Q.out, HK4.out.ext hxwq HB.out⟩, by simp [intOf]; omega⟩
            · obtain rfl : j = eb.length := by omega
              go_wp2
              exact ⟨⟨k + 1, _, hlt, by go_num, by rw [HAT.out, HATE.out], HOJ.out.weak (Nat.le_refl _) (by intro x hx; simp [hx]), hxj⟩, by simp [intOf]; omega⟩
        · by_cases hk3 : e.kind = 3
          · obtain ⟨h0, h9, hbn, hmn⟩ := right3 HRT.out hk3
            obtain ⟨ek, en, eb, em⟩ := e
            simp only at *
            subst hk3 hbn hmn
            obtain ⟨N, rfl⟩ : ∃ N : Nat, en = N := ⟨en.toNat, by omega⟩
            have hsz : ¬ sizeE ⟨3, N, [], []⟩ < 0 := by rw [size3 rfl]; simp
            have hatE : atomsE ⟨3, N, [], []⟩ = partsE ⟨3, N, [], []⟩ N := by rw [atomsE_right HRT.out hsz, size3 rfl]; simp [partsE]
            have HATE := Lib.hid hatE
            clear hsz hatE hk1
            go_wp2_with (go_at_call 24; refine (refRight (HEV.out [] (by simp) _ (hx.trans HX1.out)) hbl6 hml6 true HRT.out).mono ?_; rintro _ w2 ⟨rfl, hx2⟩; have z0 : w2.cell? ⟨wr.heap.size, 0, none⟩ = some (.int .i64 3) := (HB1.out.keep hx2).cell 0)
            have hx3 := HX1.out.trans hx2
            have hb3 := HB1.out.keep hx2
            have hO4 : RutAt w2 B (wr.heap.size :: X) (.slice Av D.length cv) D := (HO.out.addX (X' := wr.heap.size :: X) (by intro x hx; simp at hx; rcases hx with h | h; exact .inr (by omega); exact .inl h)).keep hx3
            have hxw2 := hx.trans hx3
            generalize hg5 : wr.heap.size = g5 at *
            have HG5 := Lib.hid hg5
            clear hg5 z0 hx2 hx3 HX1 HB1 HO p0 p1 p2 p3
            go_loopw [3, 10] (fun v i wj => ∃ j : Nat, j ≤ N ∧ i = .int .i64 j ∧ RutAt wj B (g5 :: X) v (D ++ partsE ⟨3, N, [], []⟩ j) ∧ Blk wj g5 34 [.int .i64 3, .int .i64 N, .string ⟨#[]⟩, .slice B1 0 d1] ∧ Ext w wj) (fun _ i _ => N - (intOf i).toNat)
            case atStart => exact ⟨0, Nat.zero_le _, rfl, by simpa [partsE] using hO4, hb3, hxw2⟩
            case round =>
              clear hb3 hO4 hxw2
              obtain ⟨j, hj, rfl, hOj, hbj, hxj⟩ := hrel
              obtain ⟨Aj, cj, rfl, hcj, hcmj⟩ := hOj.len
              have hlen : (D ++ partsE ⟨3, N, [], []⟩ j).length = D.length + j := by rw [List.length_append, parts_len]
              rw [hlen] at hOj hcj ⊢
              have HLEN := Lib.hid hlen
              have z1 : wr.cell? ⟨g5, 1, none⟩ = some (.int .i64 N) := hbj.cell 1
              have HOJ := Lib.hid hOj
              have HBJ := Lib.hid hbj
              have hgj := hbj.lt
              have hBj : B ≤ wr.heap.size := by rw [← HB.out]; exact hxj.size
              clear hlen hOj hbj
              by_cases hjN : j < N
              · go_wp2_with (at_builtin; go_loud (refine wpList_appR rfl (.tmp 68) (.tmp 70) rfl (e := ⟨3, 1, [], []⟩) (vb := .string ⟨#[]⟩) (vm := .slice none 0 0) HOJ.out hBj (by intro x hx; simp at hx; rcases hx with h | h; exact h ▸ hgj; exact Nat.lt_of_lt_of_le (HXX.out x h) hBj) ⟨rfl, RdG.nil⟩ HLEN.out (by omega) rfl rfl rfl rfl ?_); intro A4 c4 w4 hR4 hK4; have HR4 := Lib.hid hR4; have HK4 := Lib.hid hK4; clear hR4 hK4)
                go_roundw
                case rel => exact ⟨j + 1, hjN, by go_num, by rw [parts_succ, part3, ← List.append_assoc]; exact HR4.out, HK4.out.at_ _ _ _ (by simp) HBJ.out, HK4.out.ext hxj HB.out⟩
                case measure => simp [intOf]; omega
              · obtain rfl : j = N := by omega
                go_wp2
                exact ⟨⟨k + 1, _, hlt, by go_num, by rw [HAT.out, HATE.out], HOJ.out.weak (Nat.le_refl _) (by intro x hx; simp [hx]), hxj⟩, by simp [intOf]; omega⟩
          · have hk1' : (e.kind == 1) = false := by simpa using hk1
            have hk3' : (e.kind == 3) = false := by simpa using hk3
            have hatE : atomsE e = [e] := by
              refine atomsE_whole HRT.out ?_
              unfold sizeE; rw [if_neg hk1, if_neg hk3]; omega
            have HATE := Lib.hid hatE
            have HMN := Lib.hid (rightO HRT.out hk1).2
            clear hk1 hk3 hatE
            go_wp2_with (first
              | (at_builtin; go_loud (refine wpList_appR rfl (.tmp 23) (.tmp 25) rfl (e := e) (vb := strV e.b) (vm := .slice B1 e.m.length d1) (HO.out.keep (HX1.out.trans hx2)) (Nat.le_trans hBw (HX1.out.trans hx2).size) (fun x hx => Nat.lt_of_lt_of_le (HXW.out x hx) (HX1.out.trans hx2).size) ((HEV.out [] (by simp) _ (hx.trans (HX1.out.trans hx2))).anyX HMN.out) rfl (by omega) rfl rfl rfl rfl ?_); intro A4 c4 w4 hR4 hK4; have HR4 := Lib.hid hR4; have HK4 := Lib.hid hK4; clear hR4 hK4)
              | (go_at_call 24; refine (refRight (HEV.out [] (by simp) _ (hx.trans HX1.out)) hbl6 hml6 true HRT.out).mono ?_; rintro _ w2 ⟨rfl, hx2⟩; have z0 : w2.cell? ⟨wr.heap.size, 0, none⟩ = some (.int .i64 e.kind) := (HB1.out.keep hx2).cell 0; have z1 : w2.cell? ⟨wr.heap.size, 1, none⟩ = some (.int .i64 e.n) := (HB1.out.keep hx2).cell 1; have z2 : w2.cell? ⟨wr.heap.size, 2, none⟩ = some (.string ⟨e.b.toArray⟩) := (HB1.out.keep hx2).cell 2; have z3 : w2.cell? ⟨wr.heap.size, 3, none⟩ = some (.slice B1 e.m.length d1) := (HB1.out.keep hx2).cell 3))
            exact ⟨⟨k + 1, D ++ [e], hlt, by go_num, by rw [HAT.out, HATE.out], HR4.out, HK4.out.ext (hx.trans (HX1.out.trans hx2)) HB.out⟩, by simp [intOf]; omega⟩
    · obtain rfl : k = n := by omega
      rw [List.take_of_length_le (by rw [HL.out]; exact Nat.le_refl _)] at hD
      subst hD
      have HO := Lib.hid hO
      clear hO
      go_wp2
      go_ret
      exact ⟨_, rfl, HO.out, hx⟩
end Go.Proofs.Ytnbdmlpnoiljdaa
