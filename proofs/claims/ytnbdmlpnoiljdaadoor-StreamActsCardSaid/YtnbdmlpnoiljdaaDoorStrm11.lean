/- The document's stream: what comes. -/
import Derived.Test.YtnbdmlpnoiljdaaDoorStrm10
namespace Go.Proofs.YtnbdmlpnoiljdaaDoor
open Go Go.RowKit

/-- Marks as a row of bools. -/
def mkb (L : List Int) (nb : Nat) : List Bool := (List.range nb).map fun (i : Nat) => decide ((i : Int) ∈ L)
theorem mkb_len (L : List Int) (nb : Nat) : (mkb L nb).length = nb := by simp [mkb]
theorem mkb_nil (nb : Nat) : mkb [] nb = List.replicate nb false := by
  apply List.ext_getElem (by simp [mkb])
  intro i h1 h2
  simp [mkb]
theorem mkb_get (L : List Int) (nb i : Nat) (h : i < (mkb L nb).length) : (mkb L nb)[i] = decide ((i : Int) ∈ L) := by simp [mkb]
theorem mkb_set {L : List Int} {k nb m : Nat} (h : L[k]? = some (m : Int)) : (mkb (L.take k) nb).set m true = mkb (L.take (k + 1)) nb := by
  apply List.ext_getElem (by rw [List.length_set, mkb_len, mkb_len])
  intro i h1 h2
  have ht : L.take (k + 1) = L.take k ++ [(m : Int)] := by rw [List.take_add_one, h]; rfl
  rw [List.getElem_set, mkb_get]
  by_cases hi : m = i
  · subst hi
    rw [if_pos rfl, mkb_get, eq_comm, decide_eq_true_eq, ht]
    simp
  · rw [if_neg hi, mkb_get]
    have hn : ¬ (i : Int) = (m : Int) := by omega
    apply decide_eq_decide.2
    rw [ht, List.mem_append]
    simp [hn]
theorem filt_split {nb : Nat} (s : Nat) : ∀ {L : List Int} {last : Int}, risA last nb L = true → L.filter (fun x => decide ((s : Int) ≤ x)) = (if (s : Int) ∈ L then [(s : Int)] else []) ++ L.filter (fun x => decide (((s + 1 : Nat) : Int) ≤ x)) := by
  intro L
  induction L with
  | nil => intro _ _; rfl
  | cons x r ih =>
    intro last h
    simp only [risA, Bool.and_eq_true, decide_eq_true_eq] at h
    obtain ⟨h1, h2, h3⟩ := h
    have hr := ih h3
    have hmem := fun y hy => (risA_mem h3 y hy).1
    by_cases hx : x < s
    · have e1 : (x :: r).filter (fun x => decide ((s : Int) ≤ x)) = r.filter (fun x => decide ((s : Int) ≤ x)) := by rw [List.filter_cons, if_neg (by simp; omega)]
      have e2 : (x :: r).filter (fun x => decide (((s + 1 : Nat) : Int) ≤ x)) = r.filter (fun x => decide (((s + 1 : Nat) : Int) ≤ x)) := by rw [List.filter_cons, if_neg (by simp; omega)]
      have hne : ¬ (s : Int) = x := by omega
      rw [e1, e2, hr]
      simp [hne]
    · by_cases he : x = s
      · have e1 : (x :: r).filter (fun x => decide ((s : Int) ≤ x)) = x :: r.filter (fun x => decide ((s : Int) ≤ x)) := by rw [List.filter_cons, if_pos (by simp; omega)]
        have e2 : (x :: r).filter (fun x => decide (((s + 1 : Nat) : Int) ≤ x)) = r.filter (fun x => decide (((s + 1 : Nat) : Int) ≤ x)) := by rw [List.filter_cons, if_neg (by simp; omega)]
        have hn : ¬ (s : Int) ∈ r := fun hm => by have := hmem _ hm; omega
        rw [e1, e2, hr, if_neg hn, if_pos (by simp [he]), he]
        rfl
      · have e1 : (x :: r).filter (fun x => decide ((s : Int) ≤ x)) = x :: r.filter (fun x => decide ((s : Int) ≤ x)) := by rw [List.filter_cons, if_pos (by simp; omega)]
        have e2 : (x :: r).filter (fun x => decide (((s + 1 : Nat) : Int) ≤ x)) = x :: r.filter (fun x => decide (((s + 1 : Nat) : Int) ≤ x)) := by rw [List.filter_cons, if_pos (by simp; omega)]
        rw [e1, e2, hr]
        have hn : ¬ (s : Int) ∈ r := fun hm => by have := hmem _ hm; omega
        have hn' : ¬ (s : Int) ∈ x :: r := by
          intro hm
          rcases List.mem_cons.1 hm with h | h
          · exact he h.symm
          · exact hn h
        rw [if_neg hn, if_neg hn']
        rfl
theorem places_mkb {L : List Int} {nb : Nat} {last : Int} (h : risA last nb L = true) (hl : -1 ≤ last) (o : Nat) : placesFrom o (mkb L nb) = L.map fun x => (o : Int) + x := by
  have key : ∀ (f s : Nat), nb = s + f → placesFrom (o + s) ((mkb L nb).drop s) = (L.filter (fun x => decide ((s : Int) ≤ x))).map fun x => (o : Int) + x := by
    intro f
    induction f with
    | zero =>
      intro s hs
      rw [List.drop_of_length_le (by rw [mkb_len]; omega)]
      have : L.filter (fun x => decide ((s : Int) ≤ x)) = [] := by
        rw [List.filter_eq_nil_iff]
        intro x hx
        have := (risA_mem h x hx).2
        simp; omega
      rw [this]; rfl
    | succ f ih =>
      intro s hs
      have hlt : s < (mkb L nb).length := by rw [mkb_len]; omega
      rw [List.drop_eq_getElem_cons hlt]
      have hb : (mkb L nb)[s] = decide ((s : Int) ∈ L) := mkb_get L nb s hlt
      rw [hb]
      simp only [placesFrom]
      rw [Nat.add_assoc, ih (s + 1) (by omega), filt_split s h, List.map_append]
      congr 1
      by_cases hm : (s : Int) ∈ L <;> simp [hm]
  have h0 := key nb 0 (by omega)
  rw [Nat.add_zero, List.drop_zero] at h0
  rw [h0]
  congr 1
  rw [List.filter_eq_self]
  intro x hx
  have := (risA_mem h x hx).1
  simp; omega

/-- The number of what comes. -/
def delN (S : St) (nb : Nat) (r : Bool) : Nat := if S.closed then 14 else if r = false then 1 else if 4096 < S.inn.length + nb then 2 else 0
def DelTo (w w' : World) (B mb R : Nat) (C : List UInt8) (mk : List Bool) (S : St) (b : List UInt8) (L : List Int) (z : Nat) (e : Ending) : Prop :=
  e = .returned (.int .i64 z) ∧ Chg [mb] w w' ∧ (z ≠ 0 → Ext w w') ∧ (z = 0 → ∃ vk', MdAt w' B mb vk' R (C ++ b) (mk ++ mkb L b.length) (S.deliver b L) ∧ (ob vk' = 0 ∨ w.heap.size + 1 ≤ ob vk'))

set_option maxHeartbeats 4000000 in
set_option maxRecDepth 20000 in
/-- What comes. -/
theorem refDeliver {w : World} {B mb R : Nat} {vk : Value} {C : List UInt8} {mk : List Bool} {S : St} (h : MdAt w B mb vk R C mk S) (b : List UInt8) (L : List Int) (Am : Option Addr) (nm cm : Nat) (hb : C.length + b.length ≤ 1000000) (hnm : nm ≤ 1000000) (hr : Rd w 1 Am nm (intsV L))
    (r : Bool) (hrb : risA (-1) b.length L = r) (z : Nat) (hz : delN S b.length r = z) (hBw : B ≤ w.heap.size) :
    Calls Tryd.prog 65 #[.pointer (some ⟨mb, 0, none⟩), .string ⟨b.toArray⟩, .slice Am nm cm] w fun e w' => DelTo w w' B mb R C mk S b L z e := by
  have hlm := hr.len_ints
  have e4 : w.cell? ⟨mb, 4, none⟩ = some (.bool S.closed) := h.blk.cell 4
  have hCl : S.inn.length = C.length - S.read := by rw [← h.inn, List.length_drop]
  have hle := h.le
  have hml := h.len
  have hmb := h.blk.lt
  have HH := Lib.hid h
  have HR := Lib.hid hr
  have HRB := Lib.hid hrb
  have HL := Lib.hid hlm
  obtain ⟨cl, hcl⟩ : ∃ cl, S.closed = cl := ⟨_, rfl⟩
  have HCL := Lib.hid hcl
  rw [hcl] at e4
  unfold delN at hz
  rw [hcl] at hz
  clear h hr hrb hlm hcl
  cases cl with
  | true =>
    simp only [if_true] at hz
    subst hz
    go_enter Tryd.func65, Tryd.ntmps65
    go_wp2
    go_ret
    exact ⟨rfl, Chg.refl _ _, fun _ => Ext.refl _, fun h => by omega⟩
  | false =>
    simp only [Bool.false_eq_true, if_false] at hz
    have HZ := Lib.hid hz
    clear hz
    go_enter Tryd.func65, Tryd.ntmps65
    go_wp2_with (at_make; go_loud (refine wpList_mk1 Tryd.elemBo rfl rfl (.tmp 16) (.tmp 16) rfl (n := b.length) (cap := b.length) rfl rfl rfl rfl (Nat.le_refl _) (by omega) (by unfold maxLen; omega) ?_); intro w1 hB0 hb0; have HB0 := Lib.hid hB0; have HX0 := Lib.hid hb0; clear hB0 hb0)
    go_loopw [8, 20] (fun last i wr => ∃ (k : Nat) (lv : Int), k ≤ nm ∧ i = .int .i64 k ∧ last = .int .i64 lv ∧ risA lv b.length (L.drop k) = r ∧ -1 ≤ lv ∧ Blk wr w.heap.size 4 (boolsV (mkb (L.take k) b.length)) ∧ Ext w wr) (fun _ i _ => nm - (intOf i).toNat)
    case atStart => exact ⟨0, -1, Nat.zero_le _, rfl, rfl, HRB.out, by omega, by rw [List.take_zero, mkb_nil]; simpa [boolsV] using HB0.out, HX0.out⟩
    case round =>
      obtain ⟨k, lv, hk, rfl, rfl, hris, hlv, hbk, hx⟩ := hrel
      by_cases hlt : k < nm
      · obtain ⟨x, hxl⟩ : ∃ x, L[k]? = some x := ⟨_, List.getElem?_eq_getElem (by rw [HL.out]; exact hlt)⟩
        obtain ⟨b3, o3, rfl, _, hc3⟩ := (HR.out.keep hx).2 (by have := HL.out; simp [intsV]; omega)
        have hcx : wr.cell? ⟨b3, o3 + k, none⟩ = some (.int .i64 x) := hc3 k _ (by simp [intsV, hxl])
        have hkl : k < L.length := by rw [HL.out]; exact hlt
        have hxe : L[k] = x := by rw [List.getElem?_eq_getElem hkl] at hxl; exact Option.some.inj hxl
        rw [List.drop_eq_getElem_cons hkl, hxe] at hris
        simp only [risA] at hris
        have HRS := Lib.hid hris
        have HXL := Lib.hid hxl
        have HBK := Lib.hid hbk
        clear hc3 hxe hris hxl hbk hkl
        by_cases h8 : x ≤ lv
        · have hf : r = false := by rw [← HRS.out, decide_eq_false (by omega)]; rfl
          subst hf
          have hz1 : z = 1 := by have := HZ.out; simpa using this.symm
          subst hz1
          go_wp2
          go_ret
          exact ⟨rfl, .of_ext hx, fun _ => hx, fun h => by omega⟩
        · by_cases h9 : x < (b.length : Int)
          · have hn := HRS.out
            rw [decide_eq_true (by omega : lv < x), decide_eq_true h9] at hn
            have HN := Lib.hid (show risA x b.length (L.drop (k + 1)) = r from hn)
            obtain ⟨m, rfl⟩ : ∃ m : Nat, x = m := ⟨x.toNat, by omega⟩
            have hms := mkb_set (nb := b.length) HXL.out
            have HMS := Lib.hid hms
            have hmlt : m < b.length := by omega
            obtain ⟨y, hy⟩ := HBK.out.some_ (i := m) (by simp [boolsV, mkb_len]; omega)
            have f1 := HBK.out.frozen m
            clear hn hms
            go_wp2
            go_roundw
            case rel =>
              refine ⟨k + 1, m, hlt, by go_num, rfl, HN.out, by omega, ?_, ?_⟩
              · have := HBK.out.set_ m (.bool true)
                rw [← HMS.out]
                simpa [boolsV, List.map_set] using this
              · exact ((Chg.refl [w.heap.size] wr).setCell (by simp) _).below hx hx.size (by simp)
            case measure => simp [intOf]; omega
          · have hf : r = false := by rw [← HRS.out, decide_eq_false h9]; simp
            subst hf
            have hz1 : z = 1 := by have := HZ.out; simpa using this.symm
            subst hz1
            go_wp2
            go_ret
            exact ⟨rfl, .of_ext hx, fun _ => hx, fun h => by omega⟩
      · obtain rfl : k = nm := by omega
        have ht : r = true := by rw [← hris, List.drop_of_length_le (by rw [HL.out]; exact Nat.le_refl _)]; rfl
        subst ht
        rw [List.take_of_length_le (by rw [HL.out]; exact Nat.le_refl _)] at hbk
        have hz := HZ.out
        simp only [Bool.true_eq_false, if_false] at hz
        have hBw1 := HH.out.blk.keep hx
        have e1 : wr.cell? ⟨mb, 1, none⟩ = some (.string ⟨C.toArray⟩) := hBw1.cell 1
        have e3 : wr.cell? ⟨mb, 3, none⟩ = some (.int .i64 S.read) := hBw1.cell 3
        have HBW1 := Lib.hid hBw1
        have HBK := Lib.hid hbk
        clear hris hBw1 hbk e4
        by_cases hf : 4096 < S.inn.length + b.length
        · rw [if_pos hf] at hz
          subst hz
          have hg : (4096 : Int) < C.length - S.read + b.length := by omega
          go_wp2
          go_quiet (fail)
          go_wp2
          go_ret
          exact ⟨rfl, .of_ext (hx.trans (Ext.drawn _ _)), fun _ => hx.trans (Ext.drawn _ _), fun h => by omega⟩
        · rw [if_neg hf] at hz
          subst hz
          have hg : ¬ (4096 : Int) < C.length - S.read + b.length := by omega
          have hcat : ¬ 9223372036854775807 < C.length + b.length := by omega
          go_wp2
          go_quiet (fail)
          have hxd := Ext.drawn wr nq
          have hxw1 : Ext w (wr.drewN nq) := hx.trans hxd
          have hB1 := HBW1.out.keep hxd
          have hK1 := HBK.out.keep hxd
          generalize wr.drewN nq = w2 at hB1 hK1 hxw1 ⊢
          have d1 : w2.cell? ⟨mb, 1, none⟩ = some (.string ⟨C.toArray⟩) := hB1.cell 1
          have f1 := hB1.frozen 1
          have hown := (HH.out.own.keep hxw1)
          obtain ⟨Ak, ck, rfl, hck, hckm, hrk⟩ := hown.rd
          have hne := HH.out.ne
          have d2 : w2.cell? ⟨mb, 2, none⟩ = some (.slice Ak mk.length ck) := hB1.cell 2
          have hsz2 := hxw1.size
          have hgm2 := hK1.lt
          -- the worlds on the way
          have hc3 : Chg [mb] w2 ((w2.setCell ⟨mb, 1, none⟩ (.string ⟨(C ++ b).toArray⟩)).alloc (.cells #[] 4)) := ((Chg.refl _ _).setCell (by simp) _).alloc _
          have hrk3 := hrk.chg hc3 (fun _ b' o' v' e hm => hne (by simp at hm; rw [e, ob_slice, hm]))
          have hB3 : Blk ((w2.setCell ⟨mb, 1, none⟩ (.string ⟨(C ++ b).toArray⟩)).alloc (.cells #[] 4)) mb 63 [.int .i64 R, .string ⟨(C ++ b).toArray⟩, .slice Ak mk.length ck, .int .i64 S.read, .bool S.closed, .string ⟨(S.wire ++ S.q).toArray⟩, .int .i64 S.wire.length] := (hB1.set_ 1 (.string ⟨(C ++ b).toArray⟩)).alloc _
          have d3 : ((w2.setCell ⟨mb, 1, none⟩ (.string ⟨(C ++ b).toArray⟩)).alloc (.cells #[] 4)).cell? ⟨mb, 2, none⟩ = some (.slice Ak mk.length ck) := hB3.cell 2
          have hK3 := hK1.chg hc3 (by simp; omega)
          have hown0 : ((w2.setCell ⟨mb, 1, none⟩ (.string ⟨(C ++ b).toArray⟩)).alloc (.cells #[] 4)).ownsRow w2.heap.size 4 1 (.slice (some ⟨w2.heap.size, 0, none⟩) 0 0) 0 [] := by
            have := own_empty (w2.setCell ⟨mb, 1, none⟩ (.string ⟨(C ++ b).toArray⟩)) 4 1
            simpa using this
          have HRK3 := Lib.hid hrk3
          have HB3 := Lib.hid hB3
          have HK3 := Lib.hid hK3
          have HC3 := Lib.hid hc3
          have HOWN0 := Lib.hid hown0
          have HXW1 := Lib.hid hxw1
          have HML := Lib.hid hml
          have HCl := Lib.hid hCl
          have hmk6 : mk.length + b.length ≤ 1000000 := by omega
          clear e1 e3 hxd hown hrk hB1 hK1 hc3 hrk3 hB3 hK3 hown0 hxw1 hml hCl
          have hs3 : w2.heap.size ≤ ((w2.setCell ⟨mb, 1, none⟩ (.string ⟨(C ++ b).toArray⟩)).alloc (.cells #[] 4)).heap.size := by simp
          go_wp2_with (first
            | (at_builtin; go_loud (refine wpList_app2 (base := w2.heap.size) Tryd.elemBo rfl (.tmp 66) (.tmp 67) rfl (v := .slice A4 mk.length c4) (n := mk.length) rfl HOWN4.out hbs4 rfl HRM4.out (one_boolsV _) (by omega) (by unfold maxLen; omega) ?_); intro v5 w5 hown5 hg5 _ hat5; obtain ⟨A5, c5, rfl, -, -, -⟩ := own_rd hown5; have hb5 := HB4.out.grew hg5 (fun h => by have := (HOWN4.out.lt _ h.symm).1; omega); have y2 : w5.cell? ⟨mb, 2, none⟩ = some (.slice Ak mk.length ck) := hb5.cell 2; have q2 := hb5.frozen 2; have HB5 := Lib.hid hb5; have HOWN5 := Lib.hid hown5; have HG5 := Lib.hid hg5; clear hown5 hat5 hg5 hb5)
            | (at_builtin; go_loud (refine wpList_app2 (base := w2.heap.size) Tryd.elemBo rfl (.tmp 61) (.tmp 65) rfl (v := .slice (some ⟨w2.heap.size, 0, none⟩) 0 0) (n := 0) rfl HOWN0.out hs3 rfl HRK3.out (one_boolsV _) (by omega) (by unfold maxLen; omega) ?_); intro v4 w4 hown4 hg4 _ hat4; go_loud (rw [Nat.zero_add, List.nil_append] at hown4; obtain ⟨A4, c4, rfl, -, -, -⟩ := own_rd hown4; have hbs4 : w2.heap.size ≤ w4.heap.size := Nat.le_trans hs3 hg4.size; have hb4 := HB3.out.grew hg4 (fun h => by simp [Value.ownBlock] at h; omega); have hk4 := HK3.out.grew hg4 (fun h => by simp [Value.ownBlock] at h; omega); have HRM4 := Lib.hid (by have := hk4.rd (n := b.length) (size := 1) 0 (by simp [boolsV, mkb_len]); simpa [boolsV, mkb_len, List.take_of_length_le] using this : Rd w4 1 (some ⟨w.heap.size, 0, none⟩) b.length (boolsV (mkb L b.length))); have HB4 := Lib.hid hb4; have HOWN4 := Lib.hid hown4; have HG4 := Lib.hid hg4; clear hown4 hat4 hg4 hb4 hk4)))
          go_ret
          have hc5 : Chg [mb] w (w5.setCell ⟨mb, 2, none⟩ (.slice A5 (mk.length + b.length) c5)) := by
            have h1 : Chg [mb] w ((w2.setCell ⟨mb, 1, none⟩ (.string ⟨(C ++ b).toArray⟩)).alloc (.cells #[] 4)) := (Chg.of_ext HXW1.out).trans HC3.out
            have h2 := h1.more HG4.out.chg (fun y hy => by simp [Value.ownBlock] at hy; right; omega)
            have h3 := h2.more HG5.out.chg (fun y hy => by have := (HOWN4.out.lt y (by simpa using hy)).1; right; omega)
            exact h3.setCell (by simp) _
          have hne5 : ∀ q, (Value.slice A5 (mk.length + b.length) c5).ownBlock = some q → w2.heap.size ≤ q ∧ q < w5.heap.size := HOWN5.out.lt
          have hob : ob (.slice A5 (mk.length + b.length) c5) = 0 ∨ w.heap.size + 1 ≤ ob (.slice A5 (mk.length + b.length) c5) := by
            cases A5 with
            | none => exact .inl rfl
            | some a => right; rw [ob_slice]; have := (hne5 a.block rfl).1; omega
          have hres := risA_mem HRB.out
          have hin := HH.out.inn
          refine ⟨rfl, hc5, fun h => absurd rfl h, fun _ => ⟨_, ⟨?_, ?_, by omega, HH.out.low, ?_, ?_, ?_, ?_, ?_⟩, hob⟩⟩
          · have := HB5.out.set_ 2 (.slice A5 (mk.length + b.length) c5)
            exact this
          · have h1 : (mk ++ mkb L b.length).length = mk.length + b.length := by rw [List.length_append, mkb_len]
            have h2 : boolsV (mk ++ mkb L b.length) = boolsV mk ++ boolsV (mkb L b.length) := by simp [boolsV]
            rw [h1, h2]
            have h5 := own_mono (base' := w2.heap.size) HOWN5.out (Nat.le_refl _)
            have h6 := own_chg h5 ((Chg.refl [mb] w5).setCell (p := ⟨mb, 2, none⟩) (by simp) (.slice A5 (mk.length + b.length) c5)) (fun q hq hm => by have := (hne5 q hq).1; simp at hm; omega)
            exact OwnO.of_own (own_mono h6 (by omega))
          · rw [List.length_append, List.length_append, mkb_len, HML.out]
          · show (C ++ b).drop S.read = S.inn ++ b
            rw [List.drop_append_of_le_length hle, hin]
          · show S.read ≤ (C ++ b).length
            rw [List.length_append]; omega
          · show S.marks ++ L.map (fun x => (S.read : Int) + S.inn.length + x) = placesFrom S.read ((mk ++ mkb L b.length).drop S.read)
            rw [List.drop_append_of_le_length (by rw [HML.out]; exact hle), places_append, ← HH.out.mks, places_mkb HRB.out (by omega)]
            congr 1
            rw [List.length_drop, HML.out, ← HCl.out]
            apply List.map_congr_left
            intro x _
            omega
          · refine ⟨by rw [List.length_append]; omega, ?_⟩
            exact HH.out.small.2
end Go.Proofs.YtnbdmlpnoiljdaaDoor
