/- StreamActs: an act, answered as the document's stream answers. -/
import Derived.Test.YtnbdmlpnoiljdaaDoorStrm12
import Derived.Test.YtnbdmlpnoiljdaaDoorDagP
import Derived.Test.YtnbdmlpnoiljdaaDoorActOf
namespace Go.Proofs.YtnbdmlpnoiljdaaDoor
open Go Go.RowKit

/-- What is so behind an act. -/
def DoTo (w0 w' : World) (B a mb R N Q : Nat) (e : Ending) : Prop :=
  e = .returned (.bool true) ∧ Below B w0 w' ∧ ∃ S', StNow w' B a R mb S' ∧ MdNow w' B mb R (N + 300) [] S' ∧ S'.wire.length + S'.q.length ≤ Q + 300
theorem MdNow.any {w : World} {B mb R n n' : Nat} {Y : List Nat} {S : St} (h : MdNow w B mb R n Y S) (hn : n ≤ n') : MdNow w B mb R n' [] S := by
  obtain ⟨vk, C, mk, h1, h2, _, _⟩ := h
  exact ⟨vk, C, mk, h1, by omega, by simp, by simp⟩
theorem MdAt.marks_le {w : World} {B mb R : Nat} {vk : Value} {C : List UInt8} {mk : List Bool} {S : St} (h : MdAt w B mb vk R C mk S) : S.marks.length ≤ C.length ∧ S.read + S.inn.length = C.length := by
  have h1 := places_len (mk.drop S.read) S.read
  rw [← h.mks, List.length_drop, h.len] at h1
  have h2 : S.inn.length = C.length - S.read := by rw [← h.inn, List.length_drop]
  have := h.le
  omega

theorem mod50 (x : Int) : ∃ y : Nat, wrap64 ((IntKind.u64.wrap x).tmod 50) = (y : Int) ∧ y < 50 := by
  obtain ⟨u, hu⟩ : ∃ u : Nat, IntKind.u64.wrap x = (u : Int) := by
    have h : 0 ≤ IntKind.u64.wrap x := by
      simp [IntKind.wrap, IntKind.signed, IntKind.bits]
      omega
    exact ⟨(IntKind.u64.wrap x).toNat, by omega⟩
  refine ⟨u % 50, ?_, Nat.mod_lt _ (by omega)⟩
  rw [hu, show ((u : Int).tmod 50) = ((u % 50 : Nat) : Int) by rw [Int.tmod_eq_emod_of_nonneg (by omega)]; rfl]
  unfold wrap64
  omega
/-- The stream's next byte, and the document's, when there is one. -/
theorem St.next_out (S : St) : S.next.wire = S.wire ∧ S.next.q = S.q := ⟨rfl, rfl⟩
theorem MdAt.closes {w : World} {B mb R : Nat} {vk : Value} {C : List UInt8} {mk : List Bool} {S : St} (h : MdAt w B mb vk R C mk S) : MdAt (w.setCell ⟨mb, 4, none⟩ (.bool true)) B mb vk R C mk { S with closed := true } := by
  have hc : Chg [mb] w (w.setCell ⟨mb, 4, none⟩ (.bool true)) := (Chg.refl _ _).setCell (by simp) _
  exact ⟨h.blk.set_ 4 (.bool true), h.own.chg' hc (fun k hk hm => h.ne (by simp at hm; rw [hm] at hk; exact hk)), h.ne, h.low, h.len, h.inn, h.le, h.mks, h.small⟩

set_option maxHeartbeats 8000000 in
set_option maxRecDepth 20000 in
theorem doAct {w0 w : World} {B mb R : Nat} {ms : Mem} {S : St} {E : Nat → Addr} {vk : Value} {C : List UInt8} {mk : List Bool} (h0 : Below B w0 w) (hB0 : w0.heap.size ≤ B) (hE0 : Errs w0 E) (hS : StrmAt w B ms S) (hM : MdAt w B mb vk R C mk S) (hR : ms.R = R)
    (kind n : Int) (b : List UInt8) (L : List Int) (Ab Am : Option Addr) (nb cb nm cm : Nat) (hrb0 : Rd w0 1 Ab nb (bytesV b)) (hrm0 : Rd w0 1 Am nm (intsV L)) (hb3 : nb ≤ 300) (hm4 : nm ≤ 40) (hcb : nb ≤ cb) (hC5 : C.length ≤ 500000) (hQ5 : S.wire.length + S.q.length ≤ 500000) :
    Calls Tryd.prog 31 #[.pointer (some ⟨ms.a, 0, none⟩), .pointer (some ⟨mb, 0, none⟩), .agg #[.int .i64 kind, .int .i64 n, .slice Ab nb cb, .slice Am nm cm]] w fun e w' => DoTo w0 w' B ms.a mb R C.length (S.wire.length + S.q.length) e := by
  obtain ⟨hd, hdk0⟩ := hS.dis hM
  have hdY : mb ∉ ms.Y := fun h => hd (Mem.mem_Y.1 h)
  have hdK : ∀ k, ob vk = k + 1 → k ∉ ms.Y := fun k hk h => hdk0 k hk (Mem.mem_Y.1 h)
  have hR6 : R ≤ 1000000 := by have := hS.ring.most; omega
  obtain ⟨hms5', hrs'⟩ := hM.marks_le
  have hms5 : S.marks.length ≤ 500000 := by omega
  have hrs : S.read + S.inn.length ≤ 500000 := by omega
  have hbn : b.length = nb := hrb0.len_bytes
  have hYB : ∀ y ∈ ms.Y, B ≤ y ∧ y < w.heap.size := fun y hy => hS.lt (Mem.mem_Y.1 hy)
  have hBw : B ≤ w.heap.size := by have := hS.lt (k := ms.a) (.inl rfl); omega
  have hmbl := hM.blk.lt
  have hmbB := hM.low
  -- what came lies below
  have hold : ∀ (A : Option Addr) (m c : Nat) (cs : List Value), Rd w0 1 A m cs → 0 < m → ∀ k, ob (.slice A m c) = k + 1 → ¬ ms.In k := fun A m c cs hr hp k hk hin => by
    obtain ⟨g, o, rfl, hlt, _⟩ := hr.2 (by have := hr.1; omega)
    rw [ob_slice] at hk
    have := (hS.lt hin).1
    simp at hk
    omega
  have hin0 : ∀ (A : Option Addr) (m : Nat) (cs : List Value), Rd w0 1 A m cs → ∀ wx, Below B w0 wx → Rd wx 1 A m cs := fun A m cs hr wx hx => hr.below hx hB0
  have hbox := Blk.new w 65 #[.int .i64 kind, .int .i64 n, .slice Ab nb cb, .slice Am nm cm]
  have hx1 := Ext.new1 w (.cells #[.int .i64 kind, .int .i64 n, .slice Ab nb cb, .slice Am nm cm] 65)
  have HBN := Lib.hid hbn
  have HBOX := Lib.hid hbox
  have HX1 := Lib.hid hx1
  have HIN0 := Lib.hid hin0
  have HOLD := Lib.hid hold
  have HRB0 := Lib.hid hrb0
  have HRM0 := Lib.hid hrm0
  have HE0 := Lib.hid hE0
  have H0 := Lib.hid h0
  have HS := Lib.hid hS
  have HM := Lib.hid hM
  have HR := Lib.hid hR
  clear hbn hbox hx1 hin0 hold hrb0 hrm0 hE0 h0 hS hM hR hms5' hrs' hdk0
  by_cases hk0 : kind = 0
  · -- what comes
    subst hk0
    obtain ⟨z, hz⟩ : ∃ z, delN S nb (risA (-1) nb L) = z := ⟨_, rfl⟩
    obtain ⟨Sn, hSn⟩ : ∃ Sn, (if z = 0 then S.deliver b L else S) = Sn := ⟨_, rfl⟩
    have hzl : z ≤ 16 := by rw [← hz]; exact delN_le _ _ _
    have HZ := Lib.hid hz
    have HSN := Lib.hid hSn
    have HZL := Lib.hid hzl
    have hsw : Sn.wire.length + Sn.q.length = S.wire.length + S.q.length := by rw [← hSn]; split <;> rfl
    have HSW := Lib.hid hsw
    clear hsw
    have hrb1 := HIN0.out _ _ _ HRB0.out _ (H0.out.trans (HX1.out.mono hBw))
    have HRB1 := Lib.hid hrb1
    clear hz hSn hzl hrb1
    go_enter Tryd.func31, Tryd.ntmps31
    go_wp2_with (go_at_call 64; refine (numBytes b Ab nb cb _ (by omega) HRB1.out).mono ?_; rintro e w6 ⟨rfl, hgb6, hx6⟩)
    have hgb6' : Blk w6 (w.heap.size + 1) 5 (bytesV b ++ List.replicate 5 (U8 90)) := by simpa using hgb6
    have hbx6 : Blk w6 w.heap.size 65 [.int .i64 0, .int .i64 n, .slice Ab nb cb, .slice Am nm cm] := HBOX.out.keep hx6
    have hxw6 : Ext w w6 := HX1.out.trans hx6
    have hb6 : Below B w0 w6 := H0.out.trans (hxw6.mono hBw)
    have hS6 := HS.out.keep hxw6
    have hM6 := HM.out.keep hxw6
    have hsz6 : w.heap.size ≤ w6.heap.size := hxw6.size
    have hER6 : Errs w6 E := HE0.out.keep (hb6.mono hB0)
    generalize hgb : w.heap.size + 1 = gb at *
    generalize hxb : w.heap.size = xb at *
    have hXX : ∀ x ∈ ms.Y ++ [mb], B ≤ x ∧ x < xb := fun x hx => by
      rcases List.mem_append.1 hx with h | h
      · exact hYB x h
      · simp at h; subst h; exact ⟨hmbB, hmbl⟩
    have hYl : ∀ y ∈ ms.Y, y < w6.heap.size := fun y hy => by have := (hYB y hy).2; omega
    have hbel : ∀ wx, Chg (ms.Y ++ [mb]) w6 wx → Below B w0 wx := fun wx hE => hE.below hb6 (by omega) (fun x hx => (hXX x hx).1)
    have HX2 := Lib.hid (show ∀ wx, Chg (ms.Y ++ [mb]) w6 wx → wx.cell? ⟨xb, 2, none⟩ = some (.slice Ab nb cb) from fun wx hE => (hbx6.chg hE (fun h => by have := (hXX _ h).2; omega)).cell 2)
    have HX3 := Lib.hid (show ∀ wx, Chg (ms.Y ++ [mb]) w6 wx → wx.cell? ⟨xb, 3, none⟩ = some (.slice Am nm cm) from fun wx hE => (hbx6.chg hE (fun h => by have := (hXX _ h).2; omega)).cell 3)
    have HRB := Lib.hid (show ∀ wx, Chg (ms.Y ++ [mb]) w6 wx → Rd wx 1 Ab nb (bytesV b) from fun wx hE => HIN0.out _ _ _ HRB0.out wx (hbel wx hE))
    have HRM := Lib.hid (show ∀ wx, Chg (ms.Y ++ [mb]) w6 wx → Rd wx 1 Am nm (intsV L) from fun wx hE => HIN0.out _ _ _ HRM0.out wx (hbel wx hE))
    have HER := Lib.hid (show ∀ wx, Chg (ms.Y ++ [mb]) w6 wx → Errs wx E from fun wx hE => HE0.out.keep ((hbel wx hE).mono hB0))
    have HGB := Lib.hid (show ∀ wx, Chg (ms.Y ++ [mb]) w6 wx → Blk wx gb 5 (bytesV b ++ List.replicate 5 (U8 90)) from fun wx hE => hgb6'.chg hE (fun h => by have := (hXX _ h).2; omega))
    have HIN := Lib.hid (show ∀ wx, Chg (ms.Y ++ [mb]) w6 wx → Rd wx 1 (some ⟨gb, 0, none⟩) nb (bytesV b) from fun wx hE => by
      have := (HGB.out wx hE).rd (n := nb) (size := 1) 0 (by have := HBN.out; simp [bytesV]; omega)
      have hl : (bytesV b).length = nb := by have := HBN.out; simp [bytesV, this]
      simpa [List.take_append_of_le_length (by rw [hl]; exact Nat.le_refl _), List.take_of_length_le (by rw [hl]; exact Nat.le_refl _)] using this)
    have HGN := Lib.hid (show ∀ k, ob (.slice (some ⟨gb, 0, none⟩) nb (nb + 5)) = k + 1 → ¬ ms.In k from fun k hk hin => by
      rw [ob_slice] at hk
      have := (hYB k (Mem.mem_Y.2 hin)).2
      simp at hk
      omega)
    have HAM := Lib.hid (HOLD.out _ _ cm _ HRM0.out)
    have hmb6 : mb < w6.heap.size := by omega
    clear hgb6 hgb6' hbx6 hx6 hxw6 hER6 HX1 HBOX HIN0 HOLD HRB0 HRM0 HRB1 HS HM hgb hxb
    -- DAG StrmDo4
    refine wp_region_dagP (X := fun j => if j = 4 then ms.Y else if j = 12 then [mb] else []) (XX := (ms.Y ++ [mb])) (late := fun j => if j = 4 then [5, 13, 14, 15, 16, 17, 18, 19, 20] else if j = 12 then [13, 14, 15, 16, 17, 18, 19, 20] else []) (Pre := fun i w => (i = 4 → StrmAt w B ms S) ∧ (i = 12 → MdAt w B mb vk R C mk S) ∧ True) (w0 := w6) (Φ := fun i v w => match i with | 0 => (v = .pointer (some ⟨ms.a, 0, none⟩)) | 1 => (v = .slice (some ⟨gb, 0, none⟩) nb (nb + 5)) | 2 => (v = .pointer (some ⟨xb, 3, none⟩)) | 3 => (v = .slice Am nm cm) | 4 => (v = errN E z ∧ StNow w B ms.a ms.R mb Sn) | 5 => (v = .int .i64 z) | 6 => (v = .pointer (some ⟨mb, 0, none⟩)) | 7 => (v = .pointer (some ⟨xb, 2, none⟩)) | 8 => (v = .slice Ab nb cb) | 9 => (v = .string ⟨b.toArray⟩) | 10 => (v = .pointer (some ⟨xb, 3, none⟩)) | 11 => (v = .slice Am nm cm) | 12 => (v = .int .i64 z ∧ MdNow w B mb R (C.length + b.length) ms.Y Sn) | 13 => (v = .bool true) | 14 => (v = .bool true) | 15 => (v = .slice (some ⟨gb, 0, none⟩) nb (nb + 5)) | 16 => (v = .pointer (some ⟨xb, 2, none⟩)) | 17 => (v = .slice Ab nb cb) | 18 => (v = .bool true) | 19 => (v = .bool true) | 20 => (v = .bool true) | _ => True) (show Tryd.prog.follows .mixedOrders = true from Checked.mixed Tryd.checked) 115 rfl (by decide +kernel) ?_ ?_ ?_ ?_ ?_ ⟨?_, ?_, ?_, ?_, ?_, ?_, ?_, ?_, ?_, ?_, ?_, ?_, ?_, ?_, ?_, ?_, ?_, ?_, ?_, ?_, ?_, trivial⟩ ?_
    · intro j x hx
      by_cases hj4 : j = 4
      · subst hj4; have hx' : x ∈ ms.Y := hx; first | exact hx' | (rw [List.mem_append]; first | exact .inl hx' | exact .inr hx')
      by_cases hj12 : j = 12
      · subst hj12; have hx' : x ∈ [mb] := hx; first | exact hx' | (rw [List.mem_append]; first | exact .inl hx' | exact .inr hx')
      simp [hj4, hj12] at hx
    · intro j
      by_cases hj4 : j = 4
      · subst hj4; decide +kernel
      by_cases hj12 : j = 12
      · subst hj12; decide +kernel
      simp [hj4, hj12, lateOk]
    · intro i
      exact ⟨fun _ => hS6.keep ((Below.refl _ _).drew), fun _ => hM6.keep ((Below.refl _ _).drew), trivial⟩
    · intro i j w w' hij h hc
      refine ⟨?_, ?_, trivial⟩
      · intro hi
        subst hi
        have hp := h.1 rfl
        have hc' : Chg ([mb]) w w' := hc.mono (fun x hx => by
          by_cases hj4 : j = 4
          · exact absurd hj4 (by omega)
          by_cases hj12 : j = 12
          · subst hj12; have hx' : x ∈ [mb] := hx; first | exact hx' | (rw [List.mem_append]; first | exact .inl hx' | exact .inr hx')
          simp [hj4, hj12] at hx)
        exact hp.chg hc' (fun k hk hm => hd (by simp at hm; rw [← hm]; exact hk))
      · intro hi
        subst hi
        have hp := h.2.1 rfl
        have hc' : Chg (ms.Y) w w' := hc.mono (fun x hx => by
          by_cases hj4 : j = 4
          · subst hj4; have hx' : x ∈ ms.Y := hx; first | exact hx' | (rw [List.mem_append]; first | exact .inl hx' | exact .inr hx')
          by_cases hj12 : j = 12
          · exact absurd hj12 (by omega)
          simp [hj4, hj12] at hx)
        exact hp.chg hc' hdY hdK
    · intro i j v w w' hij hla h hc
      by_cases hj4 : j = 4
      · subst hj4
        have hc' : Chg ms.Y w w' := hc
        match i, hij, hla, h with
        | 0, _, _, h => exact h
        | 1, _, _, h => exact h
        | 2, _, _, h => exact h
        | 3, _, _, h => exact h
        | 4, hij, _, _ => exact absurd rfl hij
        | 5, _, _, h => exact h
        | 6, _, _, h => exact h
        | 7, _, _, h => exact h
        | 8, _, _, h => exact h
        | 9, _, _, h => exact h
        | 10, _, _, h => exact h
        | 11, _, _, h => exact h
        | 12, _, _, h => exact ⟨h.1, h.2.st hc'⟩
        | 13, _, _, h => exact h
        | 14, _, _, h => exact h
        | 15, _, _, h => exact h
        | 16, _, _, h => exact h
        | 17, _, _, h => exact h
        | 18, _, _, h => exact h
        | 19, _, _, h => exact h
        | 20, _, _, h => exact h
        | _ + 21, _, _, _ => trivial
      by_cases hj12 : j = 12
      · subst hj12
        have hc' : Chg [mb] w w' := hc
        match i, hij, hla, h with
        | 0, _, _, h => exact h
        | 1, _, _, h => exact h
        | 2, _, _, h => exact h
        | 3, _, _, h => exact h
        | 4, _, _, h => exact ⟨h.1, h.2.md hc'⟩
        | 5, _, _, h => exact h
        | 6, _, _, h => exact h
        | 7, _, _, h => exact h
        | 8, _, _, h => exact h
        | 9, _, _, h => exact h
        | 10, _, _, h => exact h
        | 11, _, _, h => exact h
        | 12, hij, _, _ => exact absurd rfl hij
        | 13, _, _, h => exact h
        | 14, _, _, h => exact h
        | 15, _, _, h => exact h
        | 16, _, _, h => exact h
        | 17, _, _, h => exact h
        | 18, _, _, h => exact h
        | 19, _, _, h => exact h
        | 20, _, _, h => exact h
        | _ + 21, _, _, _ => trivial
      have hc0 : Chg [] w w' := by simpa [hj4, hj12] using hc
      have hE : Ext w w' := hc0.ext (by simp)
      match i, h with
      | 0, h => exact h
      | 1, h => exact h
      | 2, h => exact h
      | 3, h => exact h
      | 4, h => exact ⟨h.1, h.2.keep hE⟩
      | 5, h => exact h
      | 6, h => exact h
      | 7, h => exact h
      | 8, h => exact h
      | 9, h => exact h
      | 10, h => exact h
      | 11, h => exact h
      | 12, h => exact ⟨h.1, h.2.keep hE⟩
      | 13, h => exact h
      | 14, h => exact h
      | 15, h => exact h
      | 16, h => exact h
      | 17, h => exact h
      | 18, h => exact h
      | 19, h => exact h
      | 20, h => exact h
      | _ + 21, _ => trivial
    · -- 0: t22 := move t0 
      intro ac wx hE hP hsz hdf h
      have e0 : ac.tmps[0]? = some (.pointer (some ⟨ms.a, 0, none⟩)) := by obtain ⟨v, h1, h2⟩ := h 0 (by decide +kernel); exact h1.trans (h2.symm.trans rfl)
      clear h hsz hdf
      go_wp2
      exact ⟨_, rfl, rfl, Chg.refl _ _⟩
    · -- 1: t23 := move t7 
      intro ac wx hE hP hsz hdf h
      have e7 : ac.tmps[7]? = some (.slice (some ⟨gb, 0, none⟩) nb (nb + 5)) := by obtain ⟨v, h1, h2⟩ := h 7 (by decide +kernel); exact h1.trans (h2.symm.trans rfl)
      clear h hsz hdf
      go_wp2
      exact ⟨_, rfl, rfl, Chg.refl _ _⟩
    · -- 2: t24 := fieldAddr 65 t5 3 
      intro ac wx hE hP hsz hdf h
      have e5 : ac.tmps[5]? = some (.pointer (some ⟨xb, 0, none⟩)) := by obtain ⟨v, h1, h2⟩ := h 5 (by decide +kernel); exact h1.trans (h2.symm.trans rfl)
      clear h hsz hdf
      go_wp2
      exact ⟨_, rfl, rfl, Chg.refl _ _⟩
    · -- 3: t25 := load 43 t24 
      intro ac wx hE hP hsz hdf h
      have e24 : ac.tmps[24]? = some (.pointer (some ⟨xb, 3, none⟩)) := by obtain ⟨v, h1, h2⟩ := h 24 (by decide +kernel); rw [h1]; exact congrArg some h2
      clear h hsz hdf
      have x3 := HX3.out wx hE
      go_wp2
      exact ⟨_, rfl, rfl, Chg.refl _ _⟩
    · -- 4: t26 := call { value (Operand.func 24), args := #[t22, t23, t25], argTypes := #[44, 42, 43] } 
      intro ac wx hE hP hsz hdf h
      have e22 : ac.tmps[22]? = some (.pointer (some ⟨ms.a, 0, none⟩)) := by obtain ⟨v, h1, h2⟩ := h 22 (by decide +kernel); rw [h1]; exact congrArg some h2
      have e23 : ac.tmps[23]? = some (.slice (some ⟨gb, 0, none⟩) nb (nb + 5)) := by obtain ⟨v, h1, h2⟩ := h 23 (by decide +kernel); rw [h1]; exact congrArg some h2
      have e25 : ac.tmps[25]? = some (.slice Am nm cm) := by obtain ⟨v, h1, h2⟩ := h 25 (by decide +kernel); rw [h1]; exact congrArg some h2
      clear h hsz hdf
      have hS2 := hP.1 rfl; have hsx := hE.size
      go_wp2_with ((go_at_call 24; go_loud (refine (strmDel hS2 (HER.out wx hE) (some ⟨gb, 0, none⟩) Am nb (nb + 5) nm cm b L hd (by omega) hrs (by omega) (by omega) hms5 (HRM.out wx hE) (HIN.out wx hE) (fun _ => HGN.out) HAM.out z HZ.out).mono ?_); rw [HSN.out]; rintro e w' ⟨rfl, hst3, hc3⟩))
      exact ⟨_, rfl, ⟨rfl, hst3⟩, hc3⟩
    · -- 5: t27 := call { value (Operand.func 18), args := #[t26], argTypes := #[35] } 
      intro ac wx hE hP hsz hdf h
      obtain ⟨e26, s26⟩ : ac.tmps[26]? = some (errN E z) ∧ (StNow wx B ms.a ms.R mb Sn) := by obtain ⟨v, h1, h2, h3⟩ := h 26 (by decide +kernel); exact ⟨h1.trans (congrArg some h2), h3⟩
      clear h hsz hdf
      have hER := HER.out wx hE
      go_wp2_with ((go_at_call 18; refine (numN E z wx hER HZL.out).mono ?_; rintro e w' ⟨rfl, hx3⟩))
      exact ⟨_, rfl, rfl, .of_ext hx3⟩
    · -- 6: t28 := move t1 
      intro ac wx hE hP hsz hdf h
      have e1 : ac.tmps[1]? = some (.pointer (some ⟨mb, 0, none⟩)) := by obtain ⟨v, h1, h2⟩ := h 1 (by decide +kernel); exact h1.trans (h2.symm.trans rfl)
      clear h hsz hdf
      go_wp2
      exact ⟨_, rfl, rfl, Chg.refl _ _⟩
    · -- 7: t29 := fieldAddr 65 t5 2 
      intro ac wx hE hP hsz hdf h
      have e5 : ac.tmps[5]? = some (.pointer (some ⟨xb, 0, none⟩)) := by obtain ⟨v, h1, h2⟩ := h 5 (by decide +kernel); exact h1.trans (h2.symm.trans rfl)
      clear h hsz hdf
      go_wp2
      exact ⟨_, rfl, rfl, Chg.refl _ _⟩
    · -- 8: t30 := load 42 t29 
      intro ac wx hE hP hsz hdf h
      have e29 : ac.tmps[29]? = some (.pointer (some ⟨xb, 2, none⟩)) := by obtain ⟨v, h1, h2⟩ := h 29 (by decide +kernel); rw [h1]; exact congrArg some h2
      clear h hsz hdf
      have x2 := HX2.out wx hE
      go_wp2
      exact ⟨_, rfl, rfl, Chg.refl _ _⟩
    · -- 9: t31 := convert 42 9 t30 
      intro ac wx hE hP hsz hdf h
      have e30 : ac.tmps[30]? = some (.slice Ab nb cb) := by obtain ⟨v, h1, h2⟩ := h 30 (by decide +kernel); rw [h1]; exact congrArg some h2
      clear h hsz hdf
      have hcv := conv_str (P := Tryd.prog) (c := cb) Tryd.underlying42 Tryd.underlying5 Tryd.underlying9 (HRB.out wx hE)
      go_wp2
      exact ⟨_, rfl, rfl, Chg.refl _ _⟩
    · -- 10: t32 := fieldAddr 65 t5 3 
      intro ac wx hE hP hsz hdf h
      have e5 : ac.tmps[5]? = some (.pointer (some ⟨xb, 0, none⟩)) := by obtain ⟨v, h1, h2⟩ := h 5 (by decide +kernel); exact h1.trans (h2.symm.trans rfl)
      clear h hsz hdf
      go_wp2
      exact ⟨_, rfl, rfl, Chg.refl _ _⟩
    · -- 11: t33 := load 43 t32 
      intro ac wx hE hP hsz hdf h
      have e32 : ac.tmps[32]? = some (.pointer (some ⟨xb, 3, none⟩)) := by obtain ⟨v, h1, h2⟩ := h 32 (by decide +kernel); rw [h1]; exact congrArg some h2
      clear h hsz hdf
      have x3 := HX3.out wx hE
      go_wp2
      exact ⟨_, rfl, rfl, Chg.refl _ _⟩
    · -- 12: t34 := call { value (Operand.func 65), args := #[t28, t31, t33], argTypes := #[60, 9, 43] } 
      intro ac wx hE hP hsz hdf h
      have e28 : ac.tmps[28]? = some (.pointer (some ⟨mb, 0, none⟩)) := by obtain ⟨v, h1, h2⟩ := h 28 (by decide +kernel); rw [h1]; exact congrArg some h2
      have e31 : ac.tmps[31]? = some (.string ⟨b.toArray⟩) := by obtain ⟨v, h1, h2⟩ := h 31 (by decide +kernel); rw [h1]; exact congrArg some h2
      have e33 : ac.tmps[33]? = some (.slice Am nm cm) := by obtain ⟨v, h1, h2⟩ := h 33 (by decide +kernel); rw [h1]; exact congrArg some h2
      clear h hsz hdf
      have hM2 := hP.2.1 rfl; have hsx := hE.size
      go_wp2_with ((go_at_call 65; go_loud (refine (mdDel (Y := ms.Y) hM2 b L Am nm cm hC5 (by have := HBN.out; omega) (by omega) (HRM.out wx hE) z (by rw [HBN.out]; exact HZ.out) (by omega) (fun y hy => by have := hYl y hy; omega) hdY hdK).mono ?_); rw [HSN.out]; rintro e w' ⟨rfl, hmd3, hc3⟩))
      exact ⟨_, rfl, ⟨rfl, hmd3⟩, hc3⟩
    · -- 13: t35 := binOp BinOp.eql 3 t27 t34 3 
      intro ac wx hE hP hsz hdf h
      have e27 : ac.tmps[27]? = some (.int .i64 z) := by obtain ⟨v, h1, h2⟩ := h 27 (by decide +kernel); rw [h1]; exact congrArg some h2
      obtain ⟨e34, s34⟩ : ac.tmps[34]? = some (.int .i64 z) ∧ (MdNow wx B mb R (C.length + b.length) ms.Y Sn) := by obtain ⟨v, h1, h2, h3⟩ := h 34 (by decide +kernel); exact ⟨h1.trans (congrArg some h2), h3⟩
      clear h hsz hdf
      go_wp2
      exact ⟨_, rfl, by simp, Chg.refl _ _⟩
    · -- 14: t36 := move t35 
      intro ac wx hE hP hsz hdf h
      have e35 : ac.tmps[35]? = some (.bool true) := by obtain ⟨v, h1, h2⟩ := h 35 (by decide +kernel); rw [h1]; exact congrArg some h2
      clear h hsz hdf
      go_wp2
      exact ⟨_, rfl, rfl, Chg.refl _ _⟩
    · -- 15: t37 := move t7 (14, True)
      intro ac wx hE hP hsz hdf h
      have e7 : ac.tmps[7]? = some (.slice (some ⟨gb, 0, none⟩) nb (nb + 5)) := by obtain ⟨v, h1, h2⟩ := h 7 (by decide +kernel); exact h1.trans (h2.symm.trans rfl)
      have e36 : ac.tmps[36]? = some (.bool true) := by obtain ⟨v, h1, h2⟩ := h 36 (by decide +kernel); rw [h1]; exact congrArg some h2
      clear h hsz hdf
      go_wp2
      exact ⟨_, rfl, rfl, Chg.refl _ _⟩
    · -- 16: t38 := fieldAddr 65 t5 2 (14, True)
      intro ac wx hE hP hsz hdf h
      have e5 : ac.tmps[5]? = some (.pointer (some ⟨xb, 0, none⟩)) := by obtain ⟨v, h1, h2⟩ := h 5 (by decide +kernel); exact h1.trans (h2.symm.trans rfl)
      have e36 : ac.tmps[36]? = some (.bool true) := by obtain ⟨v, h1, h2⟩ := h 36 (by decide +kernel); rw [h1]; exact congrArg some h2
      clear h hsz hdf
      go_wp2
      exact ⟨_, rfl, rfl, Chg.refl _ _⟩
    · -- 17: t39 := load 42 t38 (14, True)
      intro ac wx hE hP hsz hdf h
      have e38 : ac.tmps[38]? = some (.pointer (some ⟨xb, 2, none⟩)) := by obtain ⟨v, h1, h2⟩ := h 38 (by decide +kernel); rw [h1]; exact congrArg some h2
      have e36 : ac.tmps[36]? = some (.bool true) := by obtain ⟨v, h1, h2⟩ := h 36 (by decide +kernel); rw [h1]; exact congrArg some h2
      clear h hsz hdf
      have x2 := HX2.out wx hE
      go_wp2
      exact ⟨_, rfl, rfl, Chg.refl _ _⟩
    · -- 18: t40 := call { value (Operand.func 66), args := #[t37, t39], argTypes := #[42, 42] } (14, True)
      intro ac wx hE hP hsz hdf h
      have e37 : ac.tmps[37]? = some (.slice (some ⟨gb, 0, none⟩) nb (nb + 5)) := by obtain ⟨v, h1, h2⟩ := h 37 (by decide +kernel); rw [h1]; exact congrArg some h2
      have e39 : ac.tmps[39]? = some (.slice Ab nb cb) := by obtain ⟨v, h1, h2⟩ := h 39 (by decide +kernel); rw [h1]; exact congrArg some h2
      have e36 : ac.tmps[36]? = some (.bool true) := by obtain ⟨v, h1, h2⟩ := h 36 (by decide +kernel); rw [h1]; exact congrArg some h2
      clear h hsz hdf
      have hRD := HRB.out wx hE; have hGB := HGB.out wx hE
      go_wp2_with ((go_at_call 66; refine (numKept b Ab nb cb gb _ (by omega) hRD hGB).mono ?_; rintro e w' ⟨rfl, rfl⟩))
      exact ⟨_, rfl, rfl, Chg.refl _ _⟩
    · -- 19: t41 := pick t36 t40 (const (Value.bool false)) 
      intro ac wx hE hP hsz hdf h
      have e36 : ac.tmps[36]? = some (.bool true) := by obtain ⟨v, h1, h2⟩ := h 36 (by decide +kernel); rw [h1]; exact congrArg some h2
      have e40 : ac.tmps[40]? = some (.bool true) := by obtain ⟨v, h1, h2⟩ := h 40 (by decide +kernel); rw [h1]; exact congrArg some h2
      clear h hsz hdf
      go_wp2
      exact ⟨_, rfl, rfl, Chg.refl _ _⟩
    · -- 20: t6 := assign t41 
      intro ac wx hE hP hsz hdf h
      have e41 : ac.tmps[41]? = some (.bool true) := by obtain ⟨v, h1, h2⟩ := h 41 (by decide +kernel); rw [h1]; exact congrArg some h2
      clear h hsz hdf
      go_wp2
      exact ⟨_, rfl, rfl, Chg.refl _ _⟩
    · intro ac w9 hE hsz hdf h hrest
      obtain ⟨v0, s0, g0⟩ := h 0 _ rfl
      have e0 := g0 22 rfl
      obtain rfl : v0 = .pointer (some ⟨ms.a, 0, none⟩) := s0
      obtain ⟨v1, s1, g1⟩ := h 1 _ rfl
      have e1 := g1 23 rfl
      obtain rfl : v1 = .slice (some ⟨gb, 0, none⟩) nb (nb + 5) := s1
      obtain ⟨v2, s2, g2⟩ := h 2 _ rfl
      have e2 := g2 24 rfl
      obtain rfl : v2 = .pointer (some ⟨xb, 3, none⟩) := s2
      obtain ⟨v3, s3, g3⟩ := h 3 _ rfl
      have e3 := g3 25 rfl
      obtain rfl : v3 = .slice Am nm cm := s3
      obtain ⟨v4, s4, g4⟩ := h 4 _ rfl
      have e4 := g4 26 rfl
      obtain ⟨rfl, r4⟩ : v4 = errN E z ∧ (StNow w9 B ms.a ms.R mb Sn) := s4
      obtain ⟨v5, s5, g5⟩ := h 5 _ rfl
      have e5 := g5 27 rfl
      obtain rfl : v5 = .int .i64 z := s5
      obtain ⟨v6, s6, g6⟩ := h 6 _ rfl
      have e6 := g6 28 rfl
      obtain rfl : v6 = .pointer (some ⟨mb, 0, none⟩) := s6
      obtain ⟨v7, s7, g7⟩ := h 7 _ rfl
      have e7 := g7 29 rfl
      obtain rfl : v7 = .pointer (some ⟨xb, 2, none⟩) := s7
      obtain ⟨v8, s8, g8⟩ := h 8 _ rfl
      have e8 := g8 30 rfl
      obtain rfl : v8 = .slice Ab nb cb := s8
      obtain ⟨v9, s9, g9⟩ := h 9 _ rfl
      have e9 := g9 31 rfl
      obtain rfl : v9 = .string ⟨b.toArray⟩ := s9
      obtain ⟨v10, s10, g10⟩ := h 10 _ rfl
      have e10 := g10 32 rfl
      obtain rfl : v10 = .pointer (some ⟨xb, 3, none⟩) := s10
      obtain ⟨v11, s11, g11⟩ := h 11 _ rfl
      have e11 := g11 33 rfl
      obtain rfl : v11 = .slice Am nm cm := s11
      obtain ⟨v12, s12, g12⟩ := h 12 _ rfl
      have e12 := g12 34 rfl
      obtain ⟨rfl, r12⟩ : v12 = .int .i64 z ∧ (MdNow w9 B mb R (C.length + b.length) ms.Y Sn) := s12
      obtain ⟨v13, s13, g13⟩ := h 13 _ rfl
      have e13 := g13 35 rfl
      obtain rfl : v13 = .bool true := s13
      obtain ⟨v14, s14, g14⟩ := h 14 _ rfl
      have e14 := g14 36 rfl
      obtain rfl : v14 = .bool true := s14
      obtain ⟨v15, s15, g15⟩ := h 15 _ rfl
      have e15 := g15 37 rfl
      obtain rfl : v15 = .slice (some ⟨gb, 0, none⟩) nb (nb + 5) := s15
      obtain ⟨v16, s16, g16⟩ := h 16 _ rfl
      have e16 := g16 38 rfl
      obtain rfl : v16 = .pointer (some ⟨xb, 2, none⟩) := s16
      obtain ⟨v17, s17, g17⟩ := h 17 _ rfl
      have e17 := g17 39 rfl
      obtain rfl : v17 = .slice Ab nb cb := s17
      obtain ⟨v18, s18, g18⟩ := h 18 _ rfl
      have e18 := g18 40 rfl
      obtain rfl : v18 = .bool true := s18
      obtain ⟨v19, s19, g19⟩ := h 19 _ rfl
      have e19 := g19 41 rfl
      obtain rfl : v19 = .bool true := s19
      obtain ⟨v20, s20, g20⟩ := h 20 _ rfl
      have e20 := g20 6 rfl
      obtain rfl : v20 = .bool true := s20
      have ha := act_of [(22, .pointer (some ⟨ms.a, 0, none⟩)), (23, .slice (some ⟨gb, 0, none⟩) nb (nb + 5)), (24, .pointer (some ⟨xb, 3, none⟩)), (25, .slice Am nm cm), (26, errN E z), (27, .int .i64 z), (28, .pointer (some ⟨mb, 0, none⟩)), (29, .pointer (some ⟨xb, 2, none⟩)), (30, .slice Ab nb cb), (31, .string ⟨b.toArray⟩), (32, .pointer (some ⟨xb, 3, none⟩)), (33, .slice Am nm cm), (34, .int .i64 z), (35, .bool true), (36, .bool true), (37, .slice (some ⟨gb, 0, none⟩) nb (nb + 5)), (38, .pointer (some ⟨xb, 2, none⟩)), (39, .slice Ab nb cb), (40, .bool true), (41, .bool true), (6, .bool true)] rfl hsz hdf (by intro p hp; simp only [List.mem_cons, List.not_mem_nil, or_false] at hp; rcases hp with rfl | rfl | rfl | rfl | rfl | rfl | rfl | rfl | rfl | rfl | rfl | rfl | rfl | rfl | rfl | rfl | rfl | rfl | rfl | rfl | rfl <;> first | exact e0 | exact e1 | exact e2 | exact e3 | exact e4 | exact e5 | exact e6 | exact e7 | exact e8 | exact e9 | exact e10 | exact e11 | exact e12 | exact e13 | exact e14 | exact e15 | exact e16 | exact e17 | exact e18 | exact e19 | exact e20) hrest
      clear h hrest hsz hdf e0 e1 e2 e3 e4 e5 e6 e7 e8 e9 e10 e11 e12 e13 e14 e15 e16 e17 e18 e19 e20 g0 g1 g2 g3 g4 g5 g6 g7 g8 g9 g10 g11 g12 g13 g14 g15 g16 g17 g18 g19 g20
      subst ha
      simp only [List.foldl_cons, List.foldl_nil, Act.put, List.setIfInBounds_toArray, List.set_cons_succ, List.set_cons_zero]
      have hst9 := r4
      have hmd9 := r12
    -- GAD StrmDo4
      have hst9 := r4
      have hmd9 := r12
      rw [HR.out] at hst9
      have hb9 := hbel _ hE
      clear hE HX2 HX3 HRB HRM HER HGB HIN hbel hXX hS6 hM6 hb6 r4 r12
      go_wp2
      go_ret
      exact ⟨rfl, hb9, Sn, hst9, hmd9.any (by have := HBN.out; omega), by rw [HSW.out]; omega⟩
  · have hk0' : (kind == 0) = false := by simpa using hk0
    by_cases hk2 : kind = 2
    · -- what is to go out
      subst hk2
      obtain ⟨z, hz⟩ : ∃ z, sendN ms.R S nb = z := ⟨_, rfl⟩
      obtain ⟨Sn, hSn⟩ : ∃ Sn, (if z = 0 then { S with q := S.q ++ b } else S) = Sn := ⟨_, rfl⟩
      have hzl : z ≤ 16 := by rw [← hz]; exact sendN_le _ _ _
      have HZ := Lib.hid hz
      have HSN := Lib.hid hSn
      have HZL := Lib.hid hzl
      have hsw : Sn.wire.length + Sn.q.length ≤ S.wire.length + S.q.length + 300 := by
        rw [← hSn]
        split
        · simp only [List.length_append]; have := HBN.out; omega
        · omega
      clear hz hSn hzl
      go_enter Tryd.func31, Tryd.ntmps31
      go_wp2
      have hbx6 : Blk (w.alloc (.cells #[.int .i64 2, .int .i64 n, .slice Ab nb cb, .slice Am nm cm] 65)) w.heap.size 65 [.int .i64 2, .int .i64 n, .slice Ab nb cb, .slice Am nm cm] := HBOX.out
      have hxw6 := HX1.out
      have hb6 : Below B w0 _ := H0.out.trans (hxw6.mono hBw)
      have hS6 := HS.out.keep hxw6
      have hM6 := HM.out.keep hxw6
      have hsz6 := hxw6.size
      generalize w.alloc (.cells #[.int .i64 2, .int .i64 n, .slice Ab nb cb, .slice Am nm cm] 65) = w6 at *
      generalize hxb : w.heap.size = xb at *
      have hXX : ∀ x ∈ ms.Y ++ [mb], B ≤ x ∧ x < xb := fun x hx => by
        rcases List.mem_append.1 hx with h | h
        · exact hYB x h
        · simp at h; subst h; exact ⟨hmbB, hmbl⟩
      have hYl : ∀ y ∈ ms.Y, y < w6.heap.size := fun y hy => by have := (hYB y hy).2; omega
      have hbel : ∀ wx, Chg (ms.Y ++ [mb]) w6 wx → Below B w0 wx := fun wx hE => hE.below hb6 (by omega) (fun x hx => (hXX x hx).1)
      have HX2 := Lib.hid (show ∀ wx, Chg (ms.Y ++ [mb]) w6 wx → wx.cell? ⟨xb, 2, none⟩ = some (.slice Ab nb cb) from fun wx hE => (hbx6.chg hE (fun h => by have := (hXX _ h).2; omega)).cell 2)
      have HRB := Lib.hid (show ∀ wx, Chg (ms.Y ++ [mb]) w6 wx → Rd wx 1 Ab nb (bytesV b) from fun wx hE => HIN0.out _ _ _ HRB0.out wx (hbel wx hE))
      have HER := Lib.hid (show ∀ wx, Chg (ms.Y ++ [mb]) w6 wx → Errs wx E from fun wx hE => HE0.out.keep ((hbel wx hE).mono hB0))
      have HAB := Lib.hid (HOLD.out _ _ cb _ HRB0.out)
      have hmb6 : mb < w6.heap.size := by omega
      clear hbx6 hxw6 HX1 HBOX HIN0 HOLD HRB0 HRM0 HS HM hxb
      -- DAG StrmDo14
      refine wp_region_dagP (X := fun j => if j = 3 then ms.Y else if j = 9 then [mb] else []) (XX := (ms.Y ++ [mb])) (late := fun j => if j = 3 then [4, 10, 11] else if j = 9 then [10, 11] else []) (Pre := fun i w => (i = 3 → StrmAt w B ms S) ∧ (i = 9 → MdAt w B mb vk R C mk S) ∧ True) (w0 := w6) (Φ := fun i v w => match i with | 0 => (v = .pointer (some ⟨ms.a, 0, none⟩)) | 1 => (v = .pointer (some ⟨xb, 2, none⟩)) | 2 => (v = .slice Ab nb cb) | 3 => (v = errN E z ∧ StNow w B ms.a ms.R mb Sn) | 4 => (v = .int .i64 z) | 5 => (v = .pointer (some ⟨mb, 0, none⟩)) | 6 => (v = .pointer (some ⟨xb, 2, none⟩)) | 7 => (v = .slice Ab nb cb) | 8 => (v = .string ⟨b.toArray⟩) | 9 => (v = .int .i64 z ∧ MdNow w B mb R C.length ms.Y Sn) | 10 => (v = .bool true) | 11 => (v = .bool true) | _ => True) (show Tryd.prog.follows .mixedOrders = true from Checked.mixed Tryd.checked) 115 rfl (by decide +kernel) ?_ ?_ ?_ ?_ ?_ ⟨?_, ?_, ?_, ?_, ?_, ?_, ?_, ?_, ?_, ?_, ?_, ?_, trivial⟩ ?_
      · intro j x hx
        by_cases hj3 : j = 3
        · subst hj3; have hx' : x ∈ ms.Y := hx; first | exact hx' | (rw [List.mem_append]; first | exact .inl hx' | exact .inr hx')
        by_cases hj9 : j = 9
        · subst hj9; have hx' : x ∈ [mb] := hx; first | exact hx' | (rw [List.mem_append]; first | exact .inl hx' | exact .inr hx')
        simp [hj3, hj9] at hx
      · intro j
        by_cases hj3 : j = 3
        · subst hj3; decide +kernel
        by_cases hj9 : j = 9
        · subst hj9; decide +kernel
        simp [hj3, hj9, lateOk]
      · intro i
        exact ⟨fun _ => hS6.keep ((Below.refl _ _).drew), fun _ => hM6.keep ((Below.refl _ _).drew), trivial⟩
      · intro i j w w' hij h hc
        refine ⟨?_, ?_, trivial⟩
        · intro hi
          subst hi
          have hp := h.1 rfl
          have hc' : Chg ([mb]) w w' := hc.mono (fun x hx => by
            by_cases hj3 : j = 3
            · exact absurd hj3 (by omega)
            by_cases hj9 : j = 9
            · subst hj9; have hx' : x ∈ [mb] := hx; first | exact hx' | (rw [List.mem_append]; first | exact .inl hx' | exact .inr hx')
            simp [hj3, hj9] at hx)
          exact hp.chg hc' (fun k hk hm => hd (by simp at hm; rw [← hm]; exact hk))
        · intro hi
          subst hi
          have hp := h.2.1 rfl
          have hc' : Chg (ms.Y) w w' := hc.mono (fun x hx => by
            by_cases hj3 : j = 3
            · subst hj3; have hx' : x ∈ ms.Y := hx; first | exact hx' | (rw [List.mem_append]; first | exact .inl hx' | exact .inr hx')
            by_cases hj9 : j = 9
            · exact absurd hj9 (by omega)
            simp [hj3, hj9] at hx)
          exact hp.chg hc' hdY hdK
      · intro i j v w w' hij hla h hc
        by_cases hj3 : j = 3
        · subst hj3
          have hc' : Chg ms.Y w w' := hc
          match i, hij, hla, h with
          | 0, _, _, h => exact h
          | 1, _, _, h => exact h
          | 2, _, _, h => exact h
          | 3, hij, _, _ => exact absurd rfl hij
          | 4, _, _, h => exact h
          | 5, _, _, h => exact h
          | 6, _, _, h => exact h
          | 7, _, _, h => exact h
          | 8, _, _, h => exact h
          | 9, _, _, h => exact ⟨h.1, h.2.st hc'⟩
          | 10, _, _, h => exact h
          | 11, _, _, h => exact h
          | _ + 12, _, _, _ => trivial
        by_cases hj9 : j = 9
        · subst hj9
          have hc' : Chg [mb] w w' := hc
          match i, hij, hla, h with
          | 0, _, _, h => exact h
          | 1, _, _, h => exact h
          | 2, _, _, h => exact h
          | 3, _, _, h => exact ⟨h.1, h.2.md hc'⟩
          | 4, _, _, h => exact h
          | 5, _, _, h => exact h
          | 6, _, _, h => exact h
          | 7, _, _, h => exact h
          | 8, _, _, h => exact h
          | 9, hij, _, _ => exact absurd rfl hij
          | 10, _, _, h => exact h
          | 11, _, _, h => exact h
          | _ + 12, _, _, _ => trivial
        have hc0 : Chg [] w w' := by simpa [hj3, hj9] using hc
        have hE : Ext w w' := hc0.ext (by simp)
        match i, h with
        | 0, h => exact h
        | 1, h => exact h
        | 2, h => exact h
        | 3, h => exact ⟨h.1, h.2.keep hE⟩
        | 4, h => exact h
        | 5, h => exact h
        | 6, h => exact h
        | 7, h => exact h
        | 8, h => exact h
        | 9, h => exact ⟨h.1, h.2.keep hE⟩
        | 10, h => exact h
        | 11, h => exact h
        | _ + 12, _ => trivial
      · -- 0: t79 := move t0 
        intro ac wx hE hP hsz hdf h
        have e0 : ac.tmps[0]? = some (.pointer (some ⟨ms.a, 0, none⟩)) := by obtain ⟨v, h1, h2⟩ := h 0 (by decide +kernel); exact h1.trans (h2.symm.trans rfl)
        clear h hsz hdf
        go_wp2
        exact ⟨_, rfl, rfl, Chg.refl _ _⟩
      · -- 1: t80 := fieldAddr 65 t5 2 
        intro ac wx hE hP hsz hdf h
        have e5 : ac.tmps[5]? = some (.pointer (some ⟨xb, 0, none⟩)) := by obtain ⟨v, h1, h2⟩ := h 5 (by decide +kernel); exact h1.trans (h2.symm.trans rfl)
        clear h hsz hdf
        go_wp2
        exact ⟨_, rfl, rfl, Chg.refl _ _⟩
      · -- 2: t81 := load 42 t80 
        intro ac wx hE hP hsz hdf h
        have e80 : ac.tmps[80]? = some (.pointer (some ⟨xb, 2, none⟩)) := by obtain ⟨v, h1, h2⟩ := h 80 (by decide +kernel); rw [h1]; exact congrArg some h2
        clear h hsz hdf
        have x2 := HX2.out wx hE
        go_wp2
        exact ⟨_, rfl, rfl, Chg.refl _ _⟩
      · -- 3: t82 := call { value (Operand.func 26), args := #[t79, t81], argTypes := #[44, 42] } 
        intro ac wx hE hP hsz hdf h
        have e79 : ac.tmps[79]? = some (.pointer (some ⟨ms.a, 0, none⟩)) := by obtain ⟨v, h1, h2⟩ := h 79 (by decide +kernel); rw [h1]; exact congrArg some h2
        have e81 : ac.tmps[81]? = some (.slice Ab nb cb) := by obtain ⟨v, h1, h2⟩ := h 81 (by decide +kernel); rw [h1]; exact congrArg some h2
        clear h hsz hdf
        have hS2 := hP.1 rfl; have hsx := hE.size
        go_wp2_with ((go_at_call 26; go_loud (refine (strmSnd hS2 (HER.out wx hE) Ab nb cb b hd (by omega) hQ5 (by omega) hcb (HRB.out wx hE) HAB.out z HZ.out).mono ?_); rw [HSN.out]; rintro e w' ⟨rfl, hst3, hc3⟩))
        exact ⟨_, rfl, ⟨rfl, hst3⟩, hc3⟩
      · -- 4: t83 := call { value (Operand.func 18), args := #[t82], argTypes := #[35] } 
        intro ac wx hE hP hsz hdf h
        obtain ⟨e82, s82⟩ : ac.tmps[82]? = some (errN E z) ∧ (StNow wx B ms.a ms.R mb Sn) := by obtain ⟨v, h1, h2, h3⟩ := h 82 (by decide +kernel); exact ⟨h1.trans (congrArg some h2), h3⟩
        clear h hsz hdf
        have hER := HER.out wx hE
        go_wp2_with ((go_at_call 18; refine (numN E z wx hER HZL.out).mono ?_; rintro e w' ⟨rfl, hx3⟩))
        exact ⟨_, rfl, rfl, .of_ext hx3⟩
      · -- 5: t84 := move t1 
        intro ac wx hE hP hsz hdf h
        have e1 : ac.tmps[1]? = some (.pointer (some ⟨mb, 0, none⟩)) := by obtain ⟨v, h1, h2⟩ := h 1 (by decide +kernel); exact h1.trans (h2.symm.trans rfl)
        clear h hsz hdf
        go_wp2
        exact ⟨_, rfl, rfl, Chg.refl _ _⟩
      · -- 6: t85 := fieldAddr 65 t5 2 
        intro ac wx hE hP hsz hdf h
        have e5 : ac.tmps[5]? = some (.pointer (some ⟨xb, 0, none⟩)) := by obtain ⟨v, h1, h2⟩ := h 5 (by decide +kernel); exact h1.trans (h2.symm.trans rfl)
        clear h hsz hdf
        go_wp2
        exact ⟨_, rfl, rfl, Chg.refl _ _⟩
      · -- 7: t86 := load 42 t85 
        intro ac wx hE hP hsz hdf h
        have e85 : ac.tmps[85]? = some (.pointer (some ⟨xb, 2, none⟩)) := by obtain ⟨v, h1, h2⟩ := h 85 (by decide +kernel); rw [h1]; exact congrArg some h2
        clear h hsz hdf
        have x2 := HX2.out wx hE
        go_wp2
        exact ⟨_, rfl, rfl, Chg.refl _ _⟩
      · -- 8: t87 := convert 42 9 t86 
        intro ac wx hE hP hsz hdf h
        have e86 : ac.tmps[86]? = some (.slice Ab nb cb) := by obtain ⟨v, h1, h2⟩ := h 86 (by decide +kernel); rw [h1]; exact congrArg some h2
        clear h hsz hdf
        have hcv := conv_str (P := Tryd.prog) (c := cb) Tryd.underlying42 Tryd.underlying5 Tryd.underlying9 (HRB.out wx hE)
        go_wp2
        exact ⟨_, rfl, rfl, Chg.refl _ _⟩
      · -- 9: t88 := call { value (Operand.func 68), args := #[t84, t87], argTypes := #[60, 9] } 
        intro ac wx hE hP hsz hdf h
        have e84 : ac.tmps[84]? = some (.pointer (some ⟨mb, 0, none⟩)) := by obtain ⟨v, h1, h2⟩ := h 84 (by decide +kernel); rw [h1]; exact congrArg some h2
        have e87 : ac.tmps[87]? = some (.string ⟨b.toArray⟩) := by obtain ⟨v, h1, h2⟩ := h 87 (by decide +kernel); rw [h1]; exact congrArg some h2
        clear h hsz hdf
        have hM2 := hP.2.1 rfl; have hsx := hE.size
        go_wp2_with ((go_at_call 68; go_loud (refine (mdSnd (Y := ms.Y) hM2 b hQ5 (by have := HBN.out; omega) hR6 z (by rw [HBN.out, ← HR.out]; exact HZ.out) hdY hdK).mono ?_); rw [HSN.out]; rintro e w' ⟨rfl, hmd3, hc3⟩))
        exact ⟨_, rfl, ⟨rfl, hmd3⟩, hc3⟩
      · -- 10: t89 := binOp BinOp.eql 3 t83 t88 3 
        intro ac wx hE hP hsz hdf h
        have e83 : ac.tmps[83]? = some (.int .i64 z) := by obtain ⟨v, h1, h2⟩ := h 83 (by decide +kernel); rw [h1]; exact congrArg some h2
        obtain ⟨e88, s88⟩ : ac.tmps[88]? = some (.int .i64 z) ∧ (MdNow wx B mb R C.length ms.Y Sn) := by obtain ⟨v, h1, h2, h3⟩ := h 88 (by decide +kernel); exact ⟨h1.trans (congrArg some h2), h3⟩
        clear h hsz hdf
        go_wp2
        exact ⟨_, rfl, by simp, Chg.refl _ _⟩
      · -- 11: t6 := assign t89 
        intro ac wx hE hP hsz hdf h
        have e89 : ac.tmps[89]? = some (.bool true) := by obtain ⟨v, h1, h2⟩ := h 89 (by decide +kernel); rw [h1]; exact congrArg some h2
        clear h hsz hdf
        go_wp2
        exact ⟨_, rfl, rfl, Chg.refl _ _⟩
      · intro ac w9 hE hsz hdf h hrest
        obtain ⟨v0, s0, g0⟩ := h 0 _ rfl
        have e0 := g0 79 rfl
        obtain rfl : v0 = .pointer (some ⟨ms.a, 0, none⟩) := s0
        obtain ⟨v1, s1, g1⟩ := h 1 _ rfl
        have e1 := g1 80 rfl
        obtain rfl : v1 = .pointer (some ⟨xb, 2, none⟩) := s1
        obtain ⟨v2, s2, g2⟩ := h 2 _ rfl
        have e2 := g2 81 rfl
        obtain rfl : v2 = .slice Ab nb cb := s2
        obtain ⟨v3, s3, g3⟩ := h 3 _ rfl
        have e3 := g3 82 rfl
        obtain ⟨rfl, r3⟩ : v3 = errN E z ∧ (StNow w9 B ms.a ms.R mb Sn) := s3
        obtain ⟨v4, s4, g4⟩ := h 4 _ rfl
        have e4 := g4 83 rfl
        obtain rfl : v4 = .int .i64 z := s4
        obtain ⟨v5, s5, g5⟩ := h 5 _ rfl
        have e5 := g5 84 rfl
        obtain rfl : v5 = .pointer (some ⟨mb, 0, none⟩) := s5
        obtain ⟨v6, s6, g6⟩ := h 6 _ rfl
        have e6 := g6 85 rfl
        obtain rfl : v6 = .pointer (some ⟨xb, 2, none⟩) := s6
        obtain ⟨v7, s7, g7⟩ := h 7 _ rfl
        have e7 := g7 86 rfl
        obtain rfl : v7 = .slice Ab nb cb := s7
        obtain ⟨v8, s8, g8⟩ := h 8 _ rfl
        have e8 := g8 87 rfl
        obtain rfl : v8 = .string ⟨b.toArray⟩ := s8
        obtain ⟨v9, s9, g9⟩ := h 9 _ rfl
        have e9 := g9 88 rfl
        obtain ⟨rfl, r9⟩ : v9 = .int .i64 z ∧ (MdNow w9 B mb R C.length ms.Y Sn) := s9
        obtain ⟨v10, s10, g10⟩ := h 10 _ rfl
        have e10 := g10 89 rfl
        obtain rfl : v10 = .bool true := s10
        obtain ⟨v11, s11, g11⟩ := h 11 _ rfl
        have e11 := g11 6 rfl
        obtain rfl : v11 = .bool true := s11
        have ha := act_of [(79, .pointer (some ⟨ms.a, 0, none⟩)), (80, .pointer (some ⟨xb, 2, none⟩)), (81, .slice Ab nb cb), (82, errN E z), (83, .int .i64 z), (84, .pointer (some ⟨mb, 0, none⟩)), (85, .pointer (some ⟨xb, 2, none⟩)), (86, .slice Ab nb cb), (87, .string ⟨b.toArray⟩), (88, .int .i64 z), (89, .bool true), (6, .bool true)] rfl hsz hdf (by intro p hp; simp only [List.mem_cons, List.not_mem_nil, or_false] at hp; rcases hp with rfl | rfl | rfl | rfl | rfl | rfl | rfl | rfl | rfl | rfl | rfl | rfl <;> first | exact e0 | exact e1 | exact e2 | exact e3 | exact e4 | exact e5 | exact e6 | exact e7 | exact e8 | exact e9 | exact e10 | exact e11) hrest
        clear h hrest hsz hdf e0 e1 e2 e3 e4 e5 e6 e7 e8 e9 e10 e11 g0 g1 g2 g3 g4 g5 g6 g7 g8 g9 g10 g11
        subst ha
        simp only [List.foldl_cons, List.foldl_nil, Act.put, List.setIfInBounds_toArray, List.set_cons_succ, List.set_cons_zero]
      -- GAD StrmDo14
        have hst9 := r3
        have hmd9 := r9
        rw [HR.out] at hst9
        have hb9 := hbel _ hE
        clear hE HX2 HRB HER hbel hXX hS6 hM6 hb6 r3 r9
        go_wp2
        go_ret
        exact ⟨rfl, hb9, Sn, hst9, hmd9.any (by omega), hsw⟩
    · have hk2' : (kind == 2) = false := by simpa using hk2
      by_cases hk3 : kind = 3
      · -- what goes out
        subst hk3
        obtain ⟨z, hz⟩ : ∃ z, z = (if S.closed then 0 else min n.toNat S.q.length) := ⟨_, rfl⟩
        obtain ⟨Sn, hSn⟩ : ∃ Sn, ({ S with q := S.q.drop z, wire := S.wire ++ S.q.take z } : St) = Sn := ⟨_, rfl⟩
        have HZ := Lib.hid hz
        have HSN := Lib.hid hSn
        have hsw : Sn.wire.length + Sn.q.length ≤ S.wire.length + S.q.length + 300 := by
          rw [← hSn]
          simp only [List.length_append, List.length_take, List.length_drop]
          omega
        clear hz hSn
        go_enter Tryd.func31, Tryd.ntmps31
        go_wp2
        have hbx6 : Blk (w.alloc (.cells #[.int .i64 3, .int .i64 n, .slice Ab nb cb, .slice Am nm cm] 65)) w.heap.size 65 [.int .i64 3, .int .i64 n, .slice Ab nb cb, .slice Am nm cm] := HBOX.out
        have hxw6 := HX1.out
        have hb6 : Below B w0 _ := H0.out.trans (hxw6.mono hBw)
        have hS6 := HS.out.keep hxw6
        have hM6 := HM.out.keep hxw6
        have hsz6 := hxw6.size
        generalize w.alloc (.cells #[.int .i64 3, .int .i64 n, .slice Ab nb cb, .slice Am nm cm] 65) = w6 at *
        generalize hxb : w.heap.size = xb at *
        have hXX : ∀ x ∈ ms.Y ++ [mb], B ≤ x ∧ x < xb := fun x hx => by
          rcases List.mem_append.1 hx with h | h
          · exact hYB x h
          · simp at h; subst h; exact ⟨hmbB, hmbl⟩
        have hYl : ∀ y ∈ ms.Y, y < w6.heap.size := fun y hy => by have := (hYB y hy).2; omega
        have hbel : ∀ wx, Chg (ms.Y ++ [mb]) w6 wx → Below B w0 wx := fun wx hE => hE.below hb6 (by omega) (fun x hx => (hXX x hx).1)
        have HX1' := Lib.hid (show ∀ wx, Chg (ms.Y ++ [mb]) w6 wx → wx.cell? ⟨xb, 1, none⟩ = some (.int .i64 n) from fun wx hE => (hbx6.chg hE (fun h => by have := (hXX _ h).2; omega)).cell 1)
        have hmb6 : mb < w6.heap.size := by omega
        clear hbx6 hxw6 HX1 HBOX HIN0 HOLD HRB0 HRM0 HS HM hxb
        -- DAG StrmDo16
        refine wp_region_dagP (X := fun j => if j = 3 then ms.Y else if j = 7 then [mb] else []) (XX := (ms.Y ++ [mb])) (late := fun j => if j = 3 then [8, 9] else if j = 7 then [8, 9] else []) (Pre := fun i w => (i = 3 → StrmAt w B ms S) ∧ (i = 7 → MdAt w B mb vk R C mk S) ∧ True) (w0 := w6) (Φ := fun i v w => match i with | 0 => (v = .pointer (some ⟨ms.a, 0, none⟩)) | 1 => (v = .pointer (some ⟨xb, 1, none⟩)) | 2 => (v = .int .i64 n) | 3 => (v = .int .i64 z ∧ StNow w B ms.a ms.R mb Sn) | 4 => (v = .pointer (some ⟨mb, 0, none⟩)) | 5 => (v = .pointer (some ⟨xb, 1, none⟩)) | 6 => (v = .int .i64 n) | 7 => (v = .int .i64 z ∧ MdNow w B mb R C.length ms.Y Sn) | 8 => (v = .bool true) | 9 => (v = .bool true) | _ => True) (show Tryd.prog.follows .mixedOrders = true from Checked.mixed Tryd.checked) 115 rfl (by decide +kernel) ?_ ?_ ?_ ?_ ?_ ⟨?_, ?_, ?_, ?_, ?_, ?_, ?_, ?_, ?_, ?_, trivial⟩ ?_
        · intro j x hx
          by_cases hj3 : j = 3
          · subst hj3; have hx' : x ∈ ms.Y := hx; first | exact hx' | (rw [List.mem_append]; first | exact .inl hx' | exact .inr hx')
          by_cases hj7 : j = 7
          · subst hj7; have hx' : x ∈ [mb] := hx; first | exact hx' | (rw [List.mem_append]; first | exact .inl hx' | exact .inr hx')
          simp [hj3, hj7] at hx
        · intro j
          by_cases hj3 : j = 3
          · subst hj3; decide +kernel
          by_cases hj7 : j = 7
          · subst hj7; decide +kernel
          simp [hj3, hj7, lateOk]
        · intro i
          exact ⟨fun _ => hS6.keep ((Below.refl _ _).drew), fun _ => hM6.keep ((Below.refl _ _).drew), trivial⟩
        · intro i j w w' hij h hc
          refine ⟨?_, ?_, trivial⟩
          · intro hi
            subst hi
            have hp := h.1 rfl
            have hc' : Chg ([mb]) w w' := hc.mono (fun x hx => by
              by_cases hj3 : j = 3
              · exact absurd hj3 (by omega)
              by_cases hj7 : j = 7
              · subst hj7; have hx' : x ∈ [mb] := hx; first | exact hx' | (rw [List.mem_append]; first | exact .inl hx' | exact .inr hx')
              simp [hj3, hj7] at hx)
            exact hp.chg hc' (fun k hk hm => hd (by simp at hm; rw [← hm]; exact hk))
          · intro hi
            subst hi
            have hp := h.2.1 rfl
            have hc' : Chg (ms.Y) w w' := hc.mono (fun x hx => by
              by_cases hj3 : j = 3
              · subst hj3; have hx' : x ∈ ms.Y := hx; first | exact hx' | (rw [List.mem_append]; first | exact .inl hx' | exact .inr hx')
              by_cases hj7 : j = 7
              · exact absurd hj7 (by omega)
              simp [hj3, hj7] at hx)
            exact hp.chg hc' hdY hdK
        · intro i j v w w' hij hla h hc
          by_cases hj3 : j = 3
          · subst hj3
            have hc' : Chg ms.Y w w' := hc
            match i, hij, hla, h with
            | 0, _, _, h => exact h
            | 1, _, _, h => exact h
            | 2, _, _, h => exact h
            | 3, hij, _, _ => exact absurd rfl hij
            | 4, _, _, h => exact h
            | 5, _, _, h => exact h
            | 6, _, _, h => exact h
            | 7, _, _, h => exact ⟨h.1, h.2.st hc'⟩
            | 8, _, _, h => exact h
            | 9, _, _, h => exact h
            | _ + 10, _, _, _ => trivial
          by_cases hj7 : j = 7
          · subst hj7
            have hc' : Chg [mb] w w' := hc
            match i, hij, hla, h with
            | 0, _, _, h => exact h
            | 1, _, _, h => exact h
            | 2, _, _, h => exact h
            | 3, _, _, h => exact ⟨h.1, h.2.md hc'⟩
            | 4, _, _, h => exact h
            | 5, _, _, h => exact h
            | 6, _, _, h => exact h
            | 7, hij, _, _ => exact absurd rfl hij
            | 8, _, _, h => exact h
            | 9, _, _, h => exact h
            | _ + 10, _, _, _ => trivial
          have hc0 : Chg [] w w' := by simpa [hj3, hj7] using hc
          have hE : Ext w w' := hc0.ext (by simp)
          match i, h with
          | 0, h => exact h
          | 1, h => exact h
          | 2, h => exact h
          | 3, h => exact ⟨h.1, h.2.keep hE⟩
          | 4, h => exact h
          | 5, h => exact h
          | 6, h => exact h
          | 7, h => exact ⟨h.1, h.2.keep hE⟩
          | 8, h => exact h
          | 9, h => exact h
          | _ + 10, _ => trivial
        · -- 0: t92 := move t0 
          intro ac wx hE hP hsz hdf h
          have e0 : ac.tmps[0]? = some (.pointer (some ⟨ms.a, 0, none⟩)) := by obtain ⟨v, h1, h2⟩ := h 0 (by decide +kernel); exact h1.trans (h2.symm.trans rfl)
          clear h hsz hdf
          go_wp2
          exact ⟨_, rfl, rfl, Chg.refl _ _⟩
        · -- 1: t93 := fieldAddr 65 t5 1 
          intro ac wx hE hP hsz hdf h
          have e5 : ac.tmps[5]? = some (.pointer (some ⟨xb, 0, none⟩)) := by obtain ⟨v, h1, h2⟩ := h 5 (by decide +kernel); exact h1.trans (h2.symm.trans rfl)
          clear h hsz hdf
          go_wp2
          exact ⟨_, rfl, rfl, Chg.refl _ _⟩
        · -- 2: t94 := load 3 t93 
          intro ac wx hE hP hsz hdf h
          have e93 : ac.tmps[93]? = some (.pointer (some ⟨xb, 1, none⟩)) := by obtain ⟨v, h1, h2⟩ := h 93 (by decide +kernel); rw [h1]; exact congrArg some h2
          clear h hsz hdf
          have x1 := HX1'.out wx hE
          go_wp2
          exact ⟨_, rfl, rfl, Chg.refl _ _⟩
        · -- 3: t95 := call { value (Operand.func 27), args := #[t92, t94], argTypes := #[44, 3] } 
          intro ac wx hE hP hsz hdf h
          have e92 : ac.tmps[92]? = some (.pointer (some ⟨ms.a, 0, none⟩)) := by obtain ⟨v, h1, h2⟩ := h 92 (by decide +kernel); rw [h1]; exact congrArg some h2
          have e94 : ac.tmps[94]? = some (.int .i64 n) := by obtain ⟨v, h1, h2⟩ := h 94 (by decide +kernel); rw [h1]; exact congrArg some h2
          clear h hsz hdf
          have hS2 := hP.1 rfl; have hsx := hE.size
          go_wp2_with ((go_at_call 27; go_loud (refine (strmGrt hS2 hd (by omega) n z HZ.out).mono ?_); rw [HSN.out]; rintro e w' ⟨rfl, hst3, hc3⟩))
          exact ⟨_, rfl, ⟨rfl, hst3⟩, hc3⟩
        · -- 4: t96 := move t1 
          intro ac wx hE hP hsz hdf h
          have e1 : ac.tmps[1]? = some (.pointer (some ⟨mb, 0, none⟩)) := by obtain ⟨v, h1, h2⟩ := h 1 (by decide +kernel); exact h1.trans (h2.symm.trans rfl)
          clear h hsz hdf
          go_wp2
          exact ⟨_, rfl, rfl, Chg.refl _ _⟩
        · -- 5: t97 := fieldAddr 65 t5 1 
          intro ac wx hE hP hsz hdf h
          have e5 : ac.tmps[5]? = some (.pointer (some ⟨xb, 0, none⟩)) := by obtain ⟨v, h1, h2⟩ := h 5 (by decide +kernel); exact h1.trans (h2.symm.trans rfl)
          clear h hsz hdf
          go_wp2
          exact ⟨_, rfl, rfl, Chg.refl _ _⟩
        · -- 6: t98 := load 3 t97 
          intro ac wx hE hP hsz hdf h
          have e97 : ac.tmps[97]? = some (.pointer (some ⟨xb, 1, none⟩)) := by obtain ⟨v, h1, h2⟩ := h 97 (by decide +kernel); rw [h1]; exact congrArg some h2
          clear h hsz hdf
          have x1 := HX1'.out wx hE
          go_wp2
          exact ⟨_, rfl, rfl, Chg.refl _ _⟩
        · -- 7: t99 := call { value (Operand.func 69), args := #[t96, t98], argTypes := #[60, 3] } 
          intro ac wx hE hP hsz hdf h
          have e96 : ac.tmps[96]? = some (.pointer (some ⟨mb, 0, none⟩)) := by obtain ⟨v, h1, h2⟩ := h 96 (by decide +kernel); rw [h1]; exact congrArg some h2
          have e98 : ac.tmps[98]? = some (.int .i64 n) := by obtain ⟨v, h1, h2⟩ := h 98 (by decide +kernel); rw [h1]; exact congrArg some h2
          clear h hsz hdf
          have hM2 := hP.2.1 rfl; have hsx := hE.size
          go_wp2_with ((go_at_call 69; go_loud (refine (mdGrt (Y := ms.Y) hM2 n z HZ.out hdY hdK).mono ?_); rw [HSN.out]; rintro e w' ⟨rfl, hmd3, hc3⟩))
          exact ⟨_, rfl, ⟨rfl, hmd3⟩, hc3⟩
        · -- 8: t100 := binOp BinOp.eql 3 t95 t99 3 
          intro ac wx hE hP hsz hdf h
          obtain ⟨e95, s95⟩ : ac.tmps[95]? = some (.int .i64 z) ∧ (StNow wx B ms.a ms.R mb Sn) := by obtain ⟨v, h1, h2, h3⟩ := h 95 (by decide +kernel); exact ⟨h1.trans (congrArg some h2), h3⟩
          obtain ⟨e99, s99⟩ : ac.tmps[99]? = some (.int .i64 z) ∧ (MdNow wx B mb R C.length ms.Y Sn) := by obtain ⟨v, h1, h2, h3⟩ := h 99 (by decide +kernel); exact ⟨h1.trans (congrArg some h2), h3⟩
          clear h hsz hdf
          go_wp2
          exact ⟨_, rfl, by simp, Chg.refl _ _⟩
        · -- 9: t6 := assign t100 
          intro ac wx hE hP hsz hdf h
          have e100 : ac.tmps[100]? = some (.bool true) := by obtain ⟨v, h1, h2⟩ := h 100 (by decide +kernel); rw [h1]; exact congrArg some h2
          clear h hsz hdf
          go_wp2
          exact ⟨_, rfl, rfl, Chg.refl _ _⟩
        · intro ac w9 hE hsz hdf h hrest
          obtain ⟨v0, s0, g0⟩ := h 0 _ rfl
          have e0 := g0 92 rfl
          obtain rfl : v0 = .pointer (some ⟨ms.a, 0, none⟩) := s0
          obtain ⟨v1, s1, g1⟩ := h 1 _ rfl
          have e1 := g1 93 rfl
          obtain rfl : v1 = .pointer (some ⟨xb, 1, none⟩) := s1
          obtain ⟨v2, s2, g2⟩ := h 2 _ rfl
          have e2 := g2 94 rfl
          obtain rfl : v2 = .int .i64 n := s2
          obtain ⟨v3, s3, g3⟩ := h 3 _ rfl
          have e3 := g3 95 rfl
          obtain ⟨rfl, r3⟩ : v3 = .int .i64 z ∧ (StNow w9 B ms.a ms.R mb Sn) := s3
          obtain ⟨v4, s4, g4⟩ := h 4 _ rfl
          have e4 := g4 96 rfl
          obtain rfl : v4 = .pointer (some ⟨mb, 0, none⟩) := s4
          obtain ⟨v5, s5, g5⟩ := h 5 _ rfl
          have e5 := g5 97 rfl
          obtain rfl : v5 = .pointer (some ⟨xb, 1, none⟩) := s5
          obtain ⟨v6, s6, g6⟩ := h 6 _ rfl
          have e6 := g6 98 rfl
          obtain rfl : v6 = .int .i64 n := s6
          obtain ⟨v7, s7, g7⟩ := h 7 _ rfl
          have e7 := g7 99 rfl
          obtain ⟨rfl, r7⟩ : v7 = .int .i64 z ∧ (MdNow w9 B mb R C.length ms.Y Sn) := s7
          obtain ⟨v8, s8, g8⟩ := h 8 _ rfl
          have e8 := g8 100 rfl
          obtain rfl : v8 = .bool true := s8
          obtain ⟨v9, s9, g9⟩ := h 9 _ rfl
          have e9 := g9 6 rfl
          obtain rfl : v9 = .bool true := s9
          have ha := act_of [(92, .pointer (some ⟨ms.a, 0, none⟩)), (93, .pointer (some ⟨xb, 1, none⟩)), (94, .int .i64 n), (95, .int .i64 z), (96, .pointer (some ⟨mb, 0, none⟩)), (97, .pointer (some ⟨xb, 1, none⟩)), (98, .int .i64 n), (99, .int .i64 z), (100, .bool true), (6, .bool true)] rfl hsz hdf (by intro p hp; simp only [List.mem_cons, List.not_mem_nil, or_false] at hp; rcases hp with rfl | rfl | rfl | rfl | rfl | rfl | rfl | rfl | rfl | rfl <;> first | exact e0 | exact e1 | exact e2 | exact e3 | exact e4 | exact e5 | exact e6 | exact e7 | exact e8 | exact e9) hrest
          clear h hrest hsz hdf e0 e1 e2 e3 e4 e5 e6 e7 e8 e9 g0 g1 g2 g3 g4 g5 g6 g7 g8 g9
          subst ha
          simp only [List.foldl_cons, List.foldl_nil, Act.put, List.setIfInBounds_toArray, List.set_cons_succ, List.set_cons_zero]
        -- GAD StrmDo16
          have hst9 := r3
          have hmd9 := r7
          rw [HR.out] at hst9
          have hb9 := hbel _ hE
          clear hE HX1' hbel hXX hS6 hM6 hb6 r3 r7
          go_wp2
          go_ret
          exact ⟨rfl, hb9, Sn, hst9, hmd9.any (by omega), hsw⟩
      · have hk3' : (kind == 3) = false := by simpa using hk3
        by_cases hk1 : kind = 1
        · -- some bytes are read
          subst hk1
          obtain ⟨q, hq, hq50⟩ := mod50 n
          have hbx6 := HBOX.out
          have hxw6 := HX1.out
          have hb6 : Below B w0 _ := H0.out.trans (hxw6.mono hBw)
          have hS6 := HS.out.keep hxw6
          have hM6 := HM.out.keep hxw6
          go_enter Tryd.func31, Tryd.ntmps31
          go_wp2
          generalize w.alloc (.cells #[.int .i64 1, .int .i64 n, .slice Ab nb cb, .slice Am nm cm] 65) = w6 at *
          clear hbx6 HBOX HX1 HS HM hxw6
          go_loopw [49] (fun i wr => ∃ (j : Nat) (p1 g1 f1 : Nat) (s1 : List UInt8) (vi1 vm1 vw1 : Value) (S1 : St), j ≤ q ∧ i = .int .i64 j ∧ StrmAt wr B ⟨ms.a, p1, g1, R, f1, s1, vi1, vm1, vw1⟩ S1 ∧ MdAt wr B mb vk R C mk S1 ∧ Below B w0 wr ∧ S1.wire = S.wire ∧ S1.q = S.q) (fun i _ => q - (intOf i).toNat)
          case atStart =>
            refine ⟨0, ms.p, ms.g, ms.f, ms.s, ms.vi, ms.vm, ms.vw, S, Nat.zero_le _, rfl, ?_, hM6, hb6, rfl, rfl⟩
            rw [← HR.out]
            exact hS6
          case round =>
            clear hS6 hM6 hb6
            obtain ⟨j, p1, g1, f1, s1, vi1, vm1, vw1, S1, hj, rfl, hS1, hM1, hb1, hw1, hq1⟩ := hrel
            by_cases hlt : j < q
            · obtain ⟨hd1, hdk1⟩ := hS1.dis hM1
              have hlow1 := hM1.low
              have hsz1 := hM1.blk.lt
              cases hin : S1.inn with
              | nil =>
                have HS1 := Lib.hid hS1
                have HM1 := Lib.hid hM1
                have HIN1 := Lib.hid hin
                have HQ1 := Lib.hid (And.intro hw1 hq1)
                clear hS1 hM1 hin hw1 hq1
                go_wp2_with (first
                  | (go_at_call 67; refine (refNext0 HM1.out HIN1.out).mono ?_; rintro e w9 ⟨rfl, hx9⟩)
                  | (go_at_call 25; go_loud (refine (strmNext0 HS1.out HIN1.out).mono ?_); rintro e w8 ⟨rfl, rfl⟩))
                go_roundw
                case rel => exact ⟨j + 1, p1, g1, f1, s1, vi1, vm1, vw1, S1, hlt, by go_num, HS1.out.keep hx9, HM1.out.keep hx9, hb1.trans (hx9.mono (by omega)), HQ1.out.1, HQ1.out.2⟩
                case measure => simp [intOf]; omega
              | cons c r =>
                have HS1 := Lib.hid hS1
                have HM1 := Lib.hid hM1
                have HIN1 := Lib.hid hin
                have HQ1 := Lib.hid (And.intro hw1 hq1)
                clear hS1 hM1 hin hw1 hq1
                go_wp2_with (first
                  | (go_at_call 67; go_loud (refine (refNext1 hM8 c r HIN1.out).mono ?_); rintro e w9 ⟨rfl, hm9, hc9⟩)
                  | (go_at_call 25; go_loud (refine (strmNext1 HS1.out c r HIN1.out).mono ?_); rintro e w8 ⟨rfl, ht8⟩; obtain ⟨p2, g2, f2, s2, vi2, vm2, vw2, hS8, hc8, hn8⟩ := ht8.get; have hM8 := HM1.out.chg hc8 (fun h => hd1 (Mem.mem_Y.1 h)) (fun k hk h => hdk1 k hk (Mem.mem_Y.1 h)); have hb8 : Below B w0 w8 := hc8.below hb1 (by omega) (fun x hx => (HS1.out.lt (Mem.mem_Y.1 hx)).1)))
                have hS9 := hS8.chg hc9 (fun k hk hm => (hS8.dis hM8).1 (by simp at hm; rw [← hm]; exact hk))
                have hb9 : Below B w0 w9 := hc9.below hb8 (by have := hc8.size; omega) (by intro x hx; simp at hx; omega)
                go_roundw
                case rel => exact ⟨j + 1, p2, g2, f2, s2, vi2, vm2, vw2, S1.next, hlt, by go_num, hS9, hm9, hb9, HQ1.out.1, HQ1.out.2⟩
                case measure => simp [intOf]; omega
            · obtain rfl : j = q := by omega
              have hfin : DoTo w0 wr B ms.a mb R C.length (S.wire.length + S.q.length) (.returned (.bool true)) := ⟨rfl, hb1, S1, ⟨_, hS1, rfl, rfl, (hS1.dis hM1).1⟩, ⟨vk, C, mk, hM1, by omega, by simp, by simp⟩, by rw [hw1, hq1]; omega⟩
              have HF := Lib.hid hfin
              clear hS1 hM1 hb1 hw1 hq1 hfin
              go_wp2
              go_ret
              exact HF.out
        · have hk1' : (kind == 1) = false := by simpa using hk1
          have hxw6 := HX1.out
          have hb6 : Below B w0 _ := H0.out.trans (hxw6.mono hBw)
          have hS6 := HS.out.keep hxw6
          have hM6 := HM.out.keep hxw6
          have hER6 : Errs (w.alloc (.cells #[.int .i64 kind, .int .i64 n, .slice Ab nb cb, .slice Am nm cm] 65)) E := HE0.out.keep (hb6.mono hB0)
          by_cases hk4 : kind = 4
          · -- it is closed
            subst hk4
            have hmb6 : mb < (w.alloc (.cells #[.int .i64 4, .int .i64 n, .slice Ab nb cb, .slice Am nm cm] 65)).heap.size := hM6.blk.lt
            have hgl6 : w.heap.size < (w.alloc (.cells #[.int .i64 4, .int .i64 n, .slice Ab nb cb, .slice Am nm cm] 65)).heap.size := by simp
            have hB6 : B ≤ (w.alloc (.cells #[.int .i64 4, .int .i64 n, .slice Ab nb cb, .slice Am nm cm] 65)).heap.size := by omega
            have e4 : (w.alloc (.cells #[.int .i64 4, .int .i64 n, .slice Ab nb cb, .slice Am nm cm] 65)).cell? ⟨mb, 4, none⟩ = some (.bool S.closed) := hM6.blk.cell 4
            have f4 := hM6.blk.frozen 4
            have hc4 : Chg [mb] w (w.setCell ⟨mb, 4, none⟩ (.bool true)) := (Chg.refl _ _).setCell (by simp) _
            have hx5 := Ext.new1 (w.setCell ⟨mb, 4, none⟩ (.bool true)) (.cells #[.int .i64 4, .int .i64 n, .slice Ab nb cb, .slice Am nm cm] 65)
            have hS7 := (HS.out.chg hc4 (fun k hk hm => hd (by simp at hm; rw [← hm]; exact hk))).keep hx5
            have hM7 := HM.out.closes.keep hx5
            have hb7 : Below B w0 _ := (hc4.below H0.out hBw (by intro x hx; simp at hx; omega)).trans (hx5.mono (by have := hc4.size; omega))
            have hE7 := HE0.out.keep (hb7.mono hB0)
            have HS7 := Lib.hid hS7
            have HM7 := Lib.hid hM7
            have HB7 := Lib.hid hb7
            have HE7 := Lib.hid hE7
            clear hxw6 hb6 hS6 hM6 hER6 hc4 hx5 hS7 hM7 hb7 hE7 HX1 HBOX HS HM
            obtain ⟨cl, hcl⟩ : ∃ cl, S.closed = cl := ⟨_, rfl⟩
            rw [hcl] at e4
            have HCL := Lib.hid hcl
            clear hcl
            have hZ : ∀ (cl : Bool), (if cl = true then errV E 13 else .nilIface) = errN E (if cl then 14 else 0) := fun cl => by cases cl <;> rfl
            have HZ := Lib.hid hZ
            clear hZ
            cases cl
            all_goals
              go_enter Tryd.func31, Tryd.ntmps31
              go_wp2_with (first
                | (go_at_call 18; go_loud (refine (numN E _ w8 hE8 (by simp)).mono ?_); rintro e w9 ⟨rfl, hx9⟩)
                | (go_at_call 70; go_loud (refine (strmClose HS7.out (HE7.out.some _)).mono ?_); rw [HCL.out, HZ.out]; rintro e w8 ⟨rfl, hs8, hc8⟩; have hb8 : Below B w0 w8 := hc8.below HB7.out (by have := HB7.out.size; simp; omega) (fun x hx => (hYB x hx).1); have hE8 := HE0.out.keep (hb8.mono hB0); have hM8 := HM7.out.chg hc8 hdY hdK))
              go_ret
              refine ⟨by simp, hb8.trans (hx9.mono (by have := hc8.size; simp at this; omega)), { S with closed := true }, ⟨ms, hs8.keep hx9, rfl, HR.out, hd⟩, ⟨vk, C, mk, hM8.keep hx9, by omega, by simp, by simp⟩, by simp only; omega⟩
          · have hk4' : (kind == 4) = false := by simpa using hk4
            have hfin : DoTo w0 (w.alloc (.cells #[.int .i64 kind, .int .i64 n, .slice Ab nb cb, .slice Am nm cm] 65)) B ms.a mb R C.length (S.wire.length + S.q.length) (.returned (.bool true)) := ⟨rfl, hb6, S, ⟨ms, hS6, rfl, HR.out, hd⟩, ⟨vk, C, mk, hM6, by omega, by simp, by simp⟩, by omega⟩
            have HF := Lib.hid hfin
            clear hfin hxw6 hb6 hS6 hM6 hER6 hk0 hk1 hk2 hk3 hk4
            go_enter Tryd.func31, Tryd.ntmps31
            go_wp2
            go_ret
            exact HF.out
end Go.Proofs.YtnbdmlpnoiljdaaDoor
