/- layer 5: IacSteps walked. -/
import Derived.Test.YtbipkbpcjkgohaaIac11
namespace Go.Proofs.Ytbipkbpcjkgohaa
open Go Go.RowKit

def wordOf (k : Int) : List UInt8 := if k = 1 then [100, 97, 116, 97] else if k = 2 then [112, 108, 97, 105, 110] else if k = 3 then [118, 101, 114, 98] else if k = 4 then [115, 117, 98] else if k = 5 then [98, 97, 100] else []
set_option maxHeartbeats 400000 in
theorem iacWord (k : Int) (w : World) : Calls Try.prog 20 #[.int .i64 k] w fun e w' => e = .returned (.string ⟨(wordOf k).toArray⟩) ∧ w = w' := by
  by_cases h1 : k = 1
  · subst h1
    go_enter Try.func20, Try.ntmps20
    go_wp2
    go_ret
    exact ⟨rfl, rfl⟩
  by_cases h2 : k = 2
  · subst h2
    go_enter Try.func20, Try.ntmps20
    go_wp2
    go_ret
    exact ⟨rfl, rfl⟩
  by_cases h3 : k = 3
  · subst h3
    go_enter Try.func20, Try.ntmps20
    go_wp2
    go_ret
    exact ⟨rfl, rfl⟩
  by_cases h4 : k = 4
  · subst h4
    go_enter Try.func20, Try.ntmps20
    go_wp2
    go_ret
    exact ⟨rfl, rfl⟩
  by_cases h5 : k = 5
  · subst h5
    go_enter Try.func20, Try.ntmps20
    go_wp2
    go_ret
    exact ⟨rfl, rfl⟩
  have e : wordOf k = [] := by simp [wordOf, h1, h2, h3, h4, h5]
  have b1 : (k == 1) = false := by simpa using h1
  have b2 : (k == 2) = false := by simpa using h2
  have b3 : (k == 3) = false := by simpa using h3
  have b4 : (k == 4) = false := by simpa using h4
  have b5 : (k == 5) = false := by simpa using h5
  have E := Lib.hid e
  clear e h1 h2 h3 h4 h5
  go_enter Try.func20, Try.ntmps20
  go_wp2
  go_ret
  exact ⟨by rw [E.out]; rfl, rfl⟩

theorem kind_cases (k : Int) : k = 1 ∨ k = 2 ∨ k = 3 ∨ k = 4 ∨ k = 5 ∨ (wordOf k = [] ∧ ¬ (1 ≤ k ∧ k ≤ 5)) := by
  by_cases h1 : k = 1
  · exact .inl h1
  by_cases h2 : k = 2
  · exact .inr (.inl h2)
  by_cases h3 : k = 3
  · exact .inr (.inr (.inl h3))
  by_cases h4 : k = 4
  · exact .inr (.inr (.inr (.inl h4)))
  by_cases h5 : k = 5
  · exact .inr (.inr (.inr (.inr (.inl h5))))
  · exact .inr (.inr (.inr (.inr (.inr ⟨by simp [wordOf, h1, h2, h3, h4, h5], by omega⟩))))
theorem tokEq_cases {x y : Tok} {r : Bool} (h : tokEq x y = r) :
    ((x.kind == y.kind) = false ∧ r = false) ∨ ((x.kind == y.kind) = true ∧ (x.code == y.code) = false ∧ r = false) ∨ ((x.kind == y.kind) = true ∧ (x.code == y.code) = true ∧ (x.opt == y.opt) = false ∧ r = false) ∨
    ((x.kind == y.kind) = true ∧ (x.code == y.code) = true ∧ (x.opt == y.opt) = true ∧ (x.body == y.body) = false ∧ r = false) ∨ ((x.kind == y.kind) = true ∧ (x.code == y.code) = true ∧ (x.opt == y.opt) = true ∧ (x.body == y.body) = true ∧ (x.cut == y.cut) = false ∧ r = false) ∨
    ((x.kind == y.kind) = true ∧ (x.code == y.code) = true ∧ (x.opt == y.opt) = true ∧ (x.body == y.body) = true ∧ (x.cut == y.cut) = true ∧ r = true) := by
  have e : decide (x.body = y.body) = (x.body == y.body) := by rw [Bool.eq_iff_iff]; simp
  subst h
  unfold tokEq
  rw [e]
  cases (x.kind == y.kind) <;> cases (x.code == y.code) <;> cases (x.opt == y.opt) <;> cases (x.body == y.body) <;> cases (x.cut == y.cut) <;> simp

theorem iacFeedT {base : Nat} {p : Nat} {m : Mach} {bv : Value} (c : UInt8) (w : World) (t : Tok) (is : Bool) (h : MachAt base w p m bv) (ht : (feed m c).2.getD noTok = t) (hi : (feed m c).2.isSome = is) :
    Calls Try.prog 16 #[.pointer (some ⟨p, 0, none⟩), .int .u8 c.toNat] w fun e w' => ∃ A n d bv', e = .returned (.tuple #[.agg #[.int .i64 t.kind, .int .i64 t.code, .int .i64 t.opt, .slice A n d, .bool t.cut], .bool is]) ∧ Fed base w w' p m bv c (.slice A n d) bv' ∧ Rd w' 1 A n (bytesV t.body) := by
  refine (iacFeed c w h).mono ?_
  rintro e w' ⟨tb, bv', rfl, hfd⟩
  obtain ⟨A, n, d, rfl, h1, h2, h3, _⟩ := hfd.body [] (by simp)
  rw [ht] at h3
  exact ⟨A, n, d, bv', by rw [ht, hi]; rfl, hfd, h3⟩

/-- What one byte gives, by the machine and by the definition. -/
theorem step_next {m : Mach} {p : List UInt8} (h : Pend m p) (c : UInt8) : ∃ (is : Bool) (t : Tok) (nn : Nat), (feed m c).2.getD noTok = t ∧ (feed m c).2.isSome = is ∧ next (p ++ [c]) = (t, nn) ∧ decide (0 < nn) = is ∧ ((feed m c).1.st == 0) = is ∧ Pend (feed m c).1 (if is then [] else p ++ [c]) := by
  rcases feed_next h c with ⟨h1, h2⟩ | ⟨t, h1, h2, h3⟩
  · refine ⟨false, noTok, 0, by rw [h1]; rfl, by rw [h1]; rfl, pend_next h2, rfl, ?_, by simpa using h2⟩
    have := pend_idle h2
    rw [beq_eq_false_iff_ne]
    intro e
    exact absurd (this.1 e) (by simp)
  · exact ⟨true, t, p.length + 1, by rw [h1]; rfl, by rw [h1]; rfl, h3 [], by simp, by rw [h2]; rfl, by rw [h2]; exact .none_⟩

set_option maxHeartbeats 4000000 in
set_option maxRecDepth 20000 in
theorem lawSteps (l : List UInt8) (x y : Tok) (A Ax Ay : Option Addr) (n c nx cx ny cy : Nat) (w : World) (hr : Rd w 1 A n (bytesV l)) (hnc : n ≤ c) (hx : Rd w 1 Ax nx (bytesV x.body)) (hy : Rd w 1 Ay ny (bytesV y.body)) :
    Calls Try.prog 4 #[.slice A n c, .agg #[.int .i64 x.kind, .int .i64 x.code, .int .i64 x.opt, .slice Ax nx cx, .bool x.cut], .agg #[.int .i64 y.kind, .int .i64 y.code, .int .i64 y.opt, .slice Ay ny cy, .bool y.cut]] w fun e w' => e = .returned (.bool true) ∧ Ext w w' := by
  have hl := hr.len_bytes
  obtain ⟨wb, hwb⟩ : ∃ wb, wb = (w.alloc (.cells #[.int .i64 x.kind, .int .i64 x.code, .int .i64 x.opt, .slice Ax nx cx, .bool x.cut] 35)).alloc (.cells #[.int .i64 y.kind, .int .i64 y.code, .int .i64 y.opt, .slice Ay ny cy, .bool y.cut] 35) := ⟨_, rfl⟩
  have hbb : Ext w wb := by rw [hwb]; exact (Ext.new1 _ _).trans (Ext.new1 _ _)
  have hbx : Blk wb w.heap.size 35 [.int .i64 x.kind, .int .i64 x.code, .int .i64 x.opt, .slice Ax nx cx, .bool x.cut] := by rw [hwb]; exact (Blk.newL _ _ _).alloc _
  have hby : Blk wb (w.heap.size + 1) 35 [.int .i64 y.kind, .int .i64 y.code, .int .i64 y.opt, .slice Ay ny cy, .bool y.cut] := by
    rw [hwb]
    have := Blk.newL (w.alloc (.cells #[.int .i64 x.kind, .int .i64 x.code, .int .i64 x.opt, .slice Ax nx cx, .bool x.cut] 35)) 35 [.int .i64 y.kind, .int .i64 y.code, .int .i64 y.opt, .slice Ay ny cy, .bool y.cut]
    simpa only [World.size_alloc] using this
  go_enter Try.func4, Try.ntmps4
  by_cases hbig : (400 : Int) < n ∨ 300 < (nx : Int) ∨ 300 < (ny : Int)
  · have hbig' : (400 : Int) < n ∨ (¬ (400 : Int) < n ∧ 300 < (nx : Int)) ∨ (¬ (400 : Int) < n ∧ ¬ 300 < (nx : Int) ∧ 300 < (ny : Int)) := by omega
    clear hbig hl
    have HWB := Lib.hid hwb
    clear hwb
    rcases hbig' with h1 | ⟨h1, h2⟩ | ⟨h1, h2, h3⟩
    all_goals
      go_wp2_with (go_at_call 9; rw [← HWB.out]; refine (iacAlive _).mono ?_; rintro e w1 ⟨rfl, hb1⟩; have hxk := hbx.keep hb1; have hyk := hby.keep hb1; have x3 : w1.cell? ⟨w.heap.size, 3, none⟩ = some (.slice Ax nx cx) := hxk.cell 3; have y3 : w1.cell? ⟨w.heap.size + 1, 3, none⟩ = some (.slice Ay ny cy) := hyk.cell 3)
      go_ret
      exact ⟨rfl, hbb.trans hb1⟩
  have g1 : ¬ (400 : Int) < n := by omega
  have g2 : ¬ (300 : Int) < nx := by omega
  have g3 : ¬ (300 : Int) < ny := by omega
  have HL := Lib.hid hl
  have HWB := Lib.hid hwb
  clear hbig hl hwb
  go_wp2_with (go_at_call 9; rw [← HWB.out]; refine (iacAlive _).mono ?_; rintro e w1 ⟨rfl, hb1⟩; have hxk := hbx.keep hb1; have hyk := hby.keep hb1; have x3 : w1.cell? ⟨w.heap.size, 3, none⟩ = some (.slice Ax nx cx) := hxk.cell 3; have y3 : w1.cell? ⟨w.heap.size + 1, 3, none⟩ = some (.slice Ay ny cy) := hyk.cell 3)
  have hw1 := hbb.trans hb1
  have hm0 := mach0_at w1.heap.size w1 (Nat.le_refl _)
  have hb2 := Ext.new1 w1 (.cells #[.int .i64 0, .int .i64 0, .int .i64 0, .int .i64 0, .slice none 0 0, .bool false] 38)
  generalize w1.alloc (.cells #[.int .i64 0, .int .i64 0, .int .i64 0, .int .i64 0, .slice none 0 0, .bool false] 38) = w2 at *
  obtain ⟨B, hB⟩ : ∃ B, w1.heap.size = B := ⟨_, rfl⟩
  have hb2' : Below B w1 w2 := by rw [← hB]; exact hb2
  rw [hB] at hm0
  rw [hB]
  have hB1 : w1.heap.size ≤ B := by omega
  have hB2 : B ≤ w1.heap.size := by omega
  have hz1 := hw1.size
  have hyl := hyk.lt
  clear hB hb2 x3 y3
  go_loopw [8, 36] (fun v i wr => ∃ (k : Nat) (bv : Value) (m : Mach) (q : List UInt8), k ≤ n ∧ i = .int .i64 k ∧ v = .string ⟨q.toArray⟩ ∧ MachAt B wr B m bv ∧ Pend m q ∧ q.length ≤ k ∧ Below B w1 wr) (fun _ i _ => n - (intOf i).toNat)
  case atStart => exact ⟨0, _, mach0, [], Nat.zero_le _, rfl, rfl, hm0, .none_, by simp, hb2'⟩
  case round =>
    obtain ⟨k, bv, m, q, hk, rfl, rfl, hg, hq, hql, hb⟩ := hrel
    have hs := hb.size
    by_cases hlt : k < n
    · have hkl : k < l.length := by have := HL.out; omega
      have hbw : Ext w wr := Below.trans hw1 (hb.mono (by omega))
      obtain ⟨b, o, rfl, HC⟩ := hr.bytes (by omega)
      have hrk : ∀ wx, Ext wr wx → Rd wx 1 (some ⟨b, o + k, none⟩) 1 (bytesV [l[k]]) := fun wx h => by
        obtain ⟨b', o', e, hlb, _⟩ := hr.2 (by simp [bytesV]; omega)
        cases e
        refine ⟨rfl, fun _ => ⟨b, o + k, rfl, by have := hbw.size; have := h.size; omega, fun j u hu => ?_⟩⟩
        have hj : j = 0 := by have := (List.getElem?_eq_some_iff.1 hu).1; simpa [bytesV] using this
        subst hj
        simp [bytesV] at hu
        subst hu
        exact HC.out wx (hbw.trans h) k hkl
      have hcv := conv_str (P := Try.prog) (c := c - k) Try.underlying22 Try.underlying5 Try.underlying9 (hrk wr (Ext.refl _))
      obtain ⟨isB, tk, nn, f1, f2, f3, f4, f5, f6⟩ := step_next hq l[k]
      have hnn : (nn : Int) ≤ 100000 := by have := next_le (q ++ [l[k]]); rw [f3] at this; simp at this; omega
      have hgt : decide (0 < nn) = isB := f4
      have F1 := Lib.hid f1
      have F2 := Lib.hid f2
      have F3 := Lib.hid f3
      have HGT := Lib.hid hgt
      have HID := Lib.hid f5
      have F6 := Lib.hid f6
      have HRK := Lib.hid hrk
      clear f1 f2 f3 f4 f5 f6 hgt hrk
      have hkc : k + 1 ≤ c := by omega
      have hkc2 : ¬ c = k := by omega
      have hkc3 : k + 1 - k = 1 := by omega
      have hcx := fun wx h => HC.out wx h k hkl
      go_wp2_with (first
        | (go_at_call 16; refine (iacFeedT l[k] _ tk isB (hg.keep (hb3.trans (Ext.new1 _ _))) F1.out F2.out).mono ?_; rintro e w4 ⟨A1, n1, d1, bv1, rfl, hfd, hrd1⟩)
        | (go_at_call 15; refine (refNext (q ++ [l[k]]) (by simp; omega) _).mono ?_; rintro e w3 ⟨rfl, hb3⟩; rw [F3.out]; have hc4 := hcx (w3.alloc (.cells #[.int .i64 tk.kind, .int .i64 tk.code, .int .i64 tk.opt, .string ⟨tk.body.toArray⟩, .bool tk.cut] 40)) (hbw.trans (hb3.trans (Ext.new1 _ _)))))
      have hs3 : wr.heap.size ≤ w3.heap.size := hb3.size
      have hb3' : Below B w1 (w3.alloc (.cells #[.int .i64 tk.kind, .int .i64 tk.code, .int .i64 tk.opt, .string ⟨tk.body.toArray⟩, .bool tk.cut] 40)) := (hb.trans (Below.mono hb3 (by omega))).alloc (by omega) _
      have hbo := fun j (hj : bv.ownBlock = some j) => (hg.own.lt j hj)
      have hb4 : Below B w1 w4 := hfd.chg.below hb3' (by simp; omega) (by simp; exact fun j hj => (hbo j hj).1)
      have hyb : Blk w4 w3.heap.size 40 [.int .i64 tk.kind, .int .i64 tk.code, .int .i64 tk.opt, .string ⟨tk.body.toArray⟩, .bool tk.cut] := (Blk.newL w3 _ _).chg hfd.chg (by
        have := hg.plt
        simp only [List.mem_cons, Option.mem_toList]
        rintro (h | h)
        · omega
        · have := (hbo _ h).2; omega)
      have hmach := hfd.mach
      have hs4 := hb4.size
      have hxb := Blk.newL w4 35 [.int .i64 tk.kind, .int .i64 tk.code, .int .i64 tk.opt, .slice A1 n1 d1, .bool tk.cut]
      have hyb' := hyb.alloc (.cells #[.int .i64 tk.kind, .int .i64 tk.code, .int .i64 tk.opt, .slice A1 n1 d1, .bool tk.cut] 35)
      have hma := hmach.keep (Ext.new1 w4 (.cells #[.int .i64 tk.kind, .int .i64 tk.code, .int .i64 tk.opt, .slice A1 n1 d1, .bool tk.cut] 35))
      have hra := hrd1.keep (Ext.new1 w4 (.cells #[.int .i64 tk.kind, .int .i64 tk.code, .int .i64 tk.opt, .slice A1 n1 d1, .bool tk.cut] 35))
      have hba := hb4.alloc (by omega) (.cells #[.int .i64 tk.kind, .int .i64 tk.code, .int .i64 tk.opt, .slice A1 n1 d1, .bool tk.cut] 35)
      clear hfd hyb hmach hb4 hb3' hbo hrd1 hc4 hcx hcv hb3 hg hb HRK
      generalize w4.alloc (.cells #[.int .i64 tk.kind, .int .i64 tk.code, .int .i64 tk.opt, .slice A1 n1 d1, .bool tk.cut] 35) = wa at *
      have hX : ∀ wx, Ext wa wx → wx.cell? ⟨w4.heap.size, 0, none⟩ = some (.int .i64 tk.kind) ∧ wx.cell? ⟨w4.heap.size, 1, none⟩ = some (.int .i64 tk.code) ∧ wx.cell? ⟨w4.heap.size, 2, none⟩ = some (.int .i64 tk.opt) ∧ wx.cell? ⟨w4.heap.size, 3, none⟩ = some (.slice A1 n1 d1) ∧ wx.cell? ⟨w4.heap.size, 4, none⟩ = some (.bool tk.cut) := fun wx h => by
        have := hxb.keep h
        exact ⟨this.cell 0, this.cell 1, this.cell 2, this.cell 3, this.cell 4⟩
      have hY : ∀ wx, Ext wa wx → wx.cell? ⟨w3.heap.size, 0, none⟩ = some (.int .i64 tk.kind) ∧ wx.cell? ⟨w3.heap.size, 1, none⟩ = some (.int .i64 tk.code) ∧ wx.cell? ⟨w3.heap.size, 2, none⟩ = some (.int .i64 tk.opt) ∧ wx.cell? ⟨w3.heap.size, 3, none⟩ = some (.string ⟨tk.body.toArray⟩) ∧ wx.cell? ⟨w3.heap.size, 4, none⟩ = some (.bool tk.cut) := fun wx h => by
        have := hyb'.keep h
        exact ⟨this.cell 0, this.cell 1, this.cell 2, this.cell 3, this.cell 4⟩
      have hra' : ∀ wx, Ext wa wx → Rd wx 1 A1 n1 (bytesV tk.body) := fun wx h => hra.keep h
      have hma' : ∀ wx, Ext wa wx → MachAt B wx B (feed m l[k]).1 bv1 := fun wx h => hma.keep h
      have HX := Lib.hid hX
      have HY := Lib.hid hY
      have HB := Lib.hid hra'
      have HM := Lib.hid hma'
      clear hX hY hra' hma' hra hma hxb hyb'
      generalize w4.heap.size = xg at *
      generalize w3.heap.size = xr at *
      -- DAG IacSteps13
      refine wp_region_dag (E := Ext) (w0 := wa) (Φ := fun i v w => match i with | 0 => (v = .bool isB) | 1 => (v = .int .i64 nn) | 2 => (v = .bool isB) | 3 => (v = .bool false) | 4 => (v = .bool false) | 5 => (v = .agg #[.int .i64 tk.kind, .int .i64 tk.code, .int .i64 tk.opt, .slice A1 n1 d1, .bool tk.cut]) | 6 => (v = .agg #[.int .i64 tk.kind, .int .i64 tk.code, .int .i64 tk.opt, .string ⟨tk.body.toArray⟩, .bool tk.cut]) | 7 => (v = .agg #[.int .i64 tk.kind, .int .i64 tk.code, .int .i64 tk.opt, .string ⟨tk.body.toArray⟩, .bool tk.cut]) | 8 => (v = .bool false) | 9 => (v = .bool false) | 10 => (v = .bool false) | 11 => (v = .pointer (some ⟨B, 0, none⟩)) | 12 => (v = .bool isB) | 13 => (v = .int .i64 nn) | 14 => (v = .bool isB) | 15 => (v = .bool false) | 16 => (v = .bool false) | _ => True) (show Try.prog.follows .mixedOrders = true from Checked.mixed Try.checked) 111 rfl (by decide +kernel) ?_ ((Below.refl _ _).drew) ?_ ⟨?_, ?_, ?_, ?_, ?_, ?_, ?_, ?_, ?_, ?_, ?_, ?_, ?_, ?_, ?_, ?_, ?_, trivial⟩ ?_
      · intro i v w w' h hE
        match i, h with
        | 0, h => exact h
        | 1, h => exact h
        | 2, h => exact h
        | 3, h => exact h
        | 4, h => exact h
        | 5, h => exact h
        | 6, h => exact h
        | 7, h => exact h
        | 8, h => exact h
        | 9, h => exact h
        | 10, h => exact h
        | 11, h => exact h
        | 12, h => exact h
        | 13, h => exact h
        | 14, h => exact h
        | 15, h => exact h
        | 16, h => exact h
        | _ + 17, _ => trivial
      · exact fun w w' h h' => h.trans h'
      · -- 0: t61 := move t13 
        intro ac wx hE hsz hdf h
        have e13 : ac.tmps[13]? = some (.bool isB) := by obtain ⟨v, h1, h2⟩ := h 13 (by decide +kernel); exact h1.trans (h2.symm.trans rfl)
        clear h hsz hdf
        go_wp2
        exact ⟨_, rfl, rfl, Ext.refl _⟩
      · -- 1: t62 := move t11 
        intro ac wx hE hsz hdf h
        have e11 : ac.tmps[11]? = some (.int .i64 nn) := by obtain ⟨v, h1, h2⟩ := h 11 (by decide +kernel); exact h1.trans (h2.symm.trans rfl)
        clear h hsz hdf
        go_wp2
        exact ⟨_, rfl, rfl, Ext.refl _⟩
      · -- 2: t63 := binOp BinOp.gtr 3 t62 (const (0:i64)) 3 
        intro ac wx hE hsz hdf h
        have e62 : ac.tmps[62]? = some (.int .i64 nn) := by obtain ⟨v, h1, h2⟩ := h 62 (by decide +kernel); rw [h1]; exact congrArg some h2
        clear h hsz hdf
        go_wp2
        exact ⟨_, rfl, by rw [HGT.out], Ext.refl _⟩
      · -- 3: t64 := binOp BinOp.neq 4 t61 t63 4 
        intro ac wx hE hsz hdf h
        have e61 : ac.tmps[61]? = some (.bool isB) := by obtain ⟨v, h1, h2⟩ := h 61 (by decide +kernel); rw [h1]; exact congrArg some h2
        have e63 : ac.tmps[63]? = some (.bool isB) := by obtain ⟨v, h1, h2⟩ := h 63 (by decide +kernel); rw [h1]; exact congrArg some h2
        clear h hsz hdf
        go_wp2
        exact ⟨_, rfl, rfl, Ext.refl _⟩
      · -- 4: t65 := move t64 
        intro ac wx hE hsz hdf h
        have e64 : ac.tmps[64]? = some (.bool false) := by obtain ⟨v, h1, h2⟩ := h 64 (by decide +kernel); rw [h1]; exact congrArg some h2
        clear h hsz hdf
        go_wp2
        exact ⟨_, rfl, rfl, Ext.refl _⟩
      · -- 5: t66 := load 35 t12 (4, False)
        intro ac wx hE hsz hdf h
        have e12 : ac.tmps[12]? = some (.pointer (some ⟨xg, 0, none⟩)) := by obtain ⟨v, h1, h2⟩ := h 12 (by decide +kernel); exact h1.trans (h2.symm.trans rfl)
        have e65 : ac.tmps[65]? = some (.bool false) := by obtain ⟨v, h1, h2⟩ := h 65 (by decide +kernel); rw [h1]; exact congrArg some h2
        clear h hsz hdf
        obtain ⟨x0, x1, x2, x3, x4⟩ := HX.out wx hE
        go_wp2
        exact ⟨_, rfl, rfl, Ext.refl _⟩
      · -- 6: t67 := call { value (Operand.func 17), args := #[t66], argTypes := #[35] } (4, False)
        intro ac wx hE hsz hdf h
        have e66 : ac.tmps[66]? = some (.agg #[.int .i64 tk.kind, .int .i64 tk.code, .int .i64 tk.opt, .slice A1 n1 d1, .bool tk.cut]) := by obtain ⟨v, h1, h2⟩ := h 66 (by decide +kernel); rw [h1]; exact congrArg some h2
        have e65 : ac.tmps[65]? = some (.bool false) := by obtain ⟨v, h1, h2⟩ := h 65 (by decide +kernel); rw [h1]; exact congrArg some h2
        clear h hsz hdf
        go_wp2_with ((go_at_call 17; refine (lawOf tk.kind tk.code tk.opt A1 n1 d1 tk.cut tk.body _ (HB.out wx hE)).mono ?_; rintro e w' ⟨rfl, hb2⟩))
        exact ⟨_, rfl, rfl, hb2⟩
      · -- 7: t68 := load 40 t10 (4, False)
        intro ac wx hE hsz hdf h
        have e10 : ac.tmps[10]? = some (.pointer (some ⟨xr, 0, none⟩)) := by obtain ⟨v, h1, h2⟩ := h 10 (by decide +kernel); exact h1.trans (h2.symm.trans rfl)
        have e65 : ac.tmps[65]? = some (.bool false) := by obtain ⟨v, h1, h2⟩ := h 65 (by decide +kernel); rw [h1]; exact congrArg some h2
        clear h hsz hdf
        obtain ⟨y0, y1, y2, y3, y4⟩ := HY.out wx hE
        go_wp2
        exact ⟨_, rfl, rfl, Ext.refl _⟩
      · -- 8: t69 := binOp BinOp.neq 40 t67 t68 40 (4, False)
        intro ac wx hE hsz hdf h
        have e67 : ac.tmps[67]? = some (.agg #[.int .i64 tk.kind, .int .i64 tk.code, .int .i64 tk.opt, .string ⟨tk.body.toArray⟩, .bool tk.cut]) := by obtain ⟨v, h1, h2⟩ := h 67 (by decide +kernel); rw [h1]; exact congrArg some h2
        have e68 : ac.tmps[68]? = some (.agg #[.int .i64 tk.kind, .int .i64 tk.code, .int .i64 tk.opt, .string ⟨tk.body.toArray⟩, .bool tk.cut]) := by obtain ⟨v, h1, h2⟩ := h 68 (by decide +kernel); rw [h1]; exact congrArg some h2
        have e65 : ac.tmps[65]? = some (.bool false) := by obtain ⟨v, h1, h2⟩ := h 65 (by decide +kernel); rw [h1]; exact congrArg some h2
        clear h hsz hdf
        go_wp2
        exact ⟨_, rfl, rfl, Ext.refl _⟩
      · -- 9: t70 := pick t65 (const (Value.bool true)) t69 
        intro ac wx hE hsz hdf h
        have e65 : ac.tmps[65]? = some (.bool false) := by obtain ⟨v, h1, h2⟩ := h 65 (by decide +kernel); rw [h1]; exact congrArg some h2
        have e69 : ac.tmps[69]? = some (.bool false) := by obtain ⟨v, h1, h2⟩ := h 69 (by decide +kernel); rw [h1]; exact congrArg some h2
        clear h hsz hdf
        go_wp2
        exact ⟨_, rfl, rfl, Ext.refl _⟩
      · -- 10: t71 := move t70 
        intro ac wx hE hsz hdf h
        have e70 : ac.tmps[70]? = some (.bool false) := by obtain ⟨v, h1, h2⟩ := h 70 (by decide +kernel); rw [h1]; exact congrArg some h2
        clear h hsz hdf
        go_wp2
        exact ⟨_, rfl, rfl, Ext.refl _⟩
      · -- 11: t72 := move t7 (10, False)
        intro ac wx hE hsz hdf h
        have e7 : ac.tmps[7]? = some (.pointer (some ⟨B, 0, none⟩)) := by obtain ⟨v, h1, h2⟩ := h 7 (by decide +kernel); exact h1.trans (h2.symm.trans rfl)
        have e71 : ac.tmps[71]? = some (.bool false) := by obtain ⟨v, h1, h2⟩ := h 71 (by decide +kernel); rw [h1]; exact congrArg some h2
        clear h hsz hdf
        go_wp2
        exact ⟨_, rfl, rfl, Ext.refl _⟩
      · -- 12: t73 := call { value (Operand.func 18), args := #[t72], argTypes := #[36] } (10, False)
        intro ac wx hE hsz hdf h
        have e72 : ac.tmps[72]? = some (.pointer (some ⟨B, 0, none⟩)) := by obtain ⟨v, h1, h2⟩ := h 72 (by decide +kernel); rw [h1]; exact congrArg some h2
        have e71 : ac.tmps[71]? = some (.bool false) := by obtain ⟨v, h1, h2⟩ := h 71 (by decide +kernel); rw [h1]; exact congrArg some h2
        clear h hsz hdf
        go_wp2_with ((go_at_call 18; refine (iacIdle _ (HM.out wx hE)).mono ?_; rintro e w' ⟨rfl, rfl⟩; rw [HID.out]))
        exact ⟨_, rfl, rfl, Ext.refl _⟩
      · -- 13: t74 := move t11 (10, False)
        intro ac wx hE hsz hdf h
        have e11 : ac.tmps[11]? = some (.int .i64 nn) := by obtain ⟨v, h1, h2⟩ := h 11 (by decide +kernel); exact h1.trans (h2.symm.trans rfl)
        have e71 : ac.tmps[71]? = some (.bool false) := by obtain ⟨v, h1, h2⟩ := h 71 (by decide +kernel); rw [h1]; exact congrArg some h2
        clear h hsz hdf
        go_wp2
        exact ⟨_, rfl, rfl, Ext.refl _⟩
      · -- 14: t75 := binOp BinOp.gtr 3 t74 (const (0:i64)) 3 (10, False)
        intro ac wx hE hsz hdf h
        have e74 : ac.tmps[74]? = some (.int .i64 nn) := by obtain ⟨v, h1, h2⟩ := h 74 (by decide +kernel); rw [h1]; exact congrArg some h2
        have e71 : ac.tmps[71]? = some (.bool false) := by obtain ⟨v, h1, h2⟩ := h 71 (by decide +kernel); rw [h1]; exact congrArg some h2
        clear h hsz hdf
        go_wp2
        exact ⟨_, rfl, by rw [HGT.out], Ext.refl _⟩
      · -- 15: t76 := binOp BinOp.neq 4 t73 t75 4 (10, False)
        intro ac wx hE hsz hdf h
        have e73 : ac.tmps[73]? = some (.bool isB) := by obtain ⟨v, h1, h2⟩ := h 73 (by decide +kernel); rw [h1]; exact congrArg some h2
        have e75 : ac.tmps[75]? = some (.bool isB) := by obtain ⟨v, h1, h2⟩ := h 75 (by decide +kernel); rw [h1]; exact congrArg some h2
        have e71 : ac.tmps[71]? = some (.bool false) := by obtain ⟨v, h1, h2⟩ := h 71 (by decide +kernel); rw [h1]; exact congrArg some h2
        clear h hsz hdf
        go_wp2
        exact ⟨_, rfl, rfl, Ext.refl _⟩
      · -- 16: t77 := pick t71 (const (Value.bool true)) t76 
        intro ac wx hE hsz hdf h
        have e71 : ac.tmps[71]? = some (.bool false) := by obtain ⟨v, h1, h2⟩ := h 71 (by decide +kernel); rw [h1]; exact congrArg some h2
        have e76 : ac.tmps[76]? = some (.bool false) := by obtain ⟨v, h1, h2⟩ := h 76 (by decide +kernel); rw [h1]; exact congrArg some h2
        clear h hsz hdf
        go_wp2
        exact ⟨_, rfl, rfl, Ext.refl _⟩
      · intro a w9 hE hsz hdf h hrest
        obtain ⟨v0, s0, g0⟩ := h 0 _ rfl
        have e0 := g0 61 rfl
        obtain rfl : v0 = .bool isB := s0
        obtain ⟨v1, s1, g1⟩ := h 1 _ rfl
        have e1 := g1 62 rfl
        obtain rfl : v1 = .int .i64 nn := s1
        obtain ⟨v2, s2, g2⟩ := h 2 _ rfl
        have e2 := g2 63 rfl
        obtain rfl : v2 = .bool isB := s2
        obtain ⟨v3, s3, g3⟩ := h 3 _ rfl
        have e3 := g3 64 rfl
        obtain rfl : v3 = .bool false := s3
        obtain ⟨v4, s4, g4⟩ := h 4 _ rfl
        have e4 := g4 65 rfl
        obtain rfl : v4 = .bool false := s4
        obtain ⟨v5, s5, g5⟩ := h 5 _ rfl
        have e5 := g5 66 rfl
        obtain rfl : v5 = .agg #[.int .i64 tk.kind, .int .i64 tk.code, .int .i64 tk.opt, .slice A1 n1 d1, .bool tk.cut] := s5
        obtain ⟨v6, s6, g6⟩ := h 6 _ rfl
        have e6 := g6 67 rfl
        obtain rfl : v6 = .agg #[.int .i64 tk.kind, .int .i64 tk.code, .int .i64 tk.opt, .string ⟨tk.body.toArray⟩, .bool tk.cut] := s6
        obtain ⟨v7, s7, g7⟩ := h 7 _ rfl
        have e7 := g7 68 rfl
        obtain rfl : v7 = .agg #[.int .i64 tk.kind, .int .i64 tk.code, .int .i64 tk.opt, .string ⟨tk.body.toArray⟩, .bool tk.cut] := s7
        obtain ⟨v8, s8, g8⟩ := h 8 _ rfl
        have e8 := g8 69 rfl
        obtain rfl : v8 = .bool false := s8
        obtain ⟨v9, s9, g9⟩ := h 9 _ rfl
        have e9 := g9 70 rfl
        obtain rfl : v9 = .bool false := s9
        obtain ⟨v10, s10, g10⟩ := h 10 _ rfl
        have e10 := g10 71 rfl
        obtain rfl : v10 = .bool false := s10
        obtain ⟨v11, s11, g11⟩ := h 11 _ rfl
        have e11 := g11 72 rfl
        obtain rfl : v11 = .pointer (some ⟨B, 0, none⟩) := s11
        obtain ⟨v12, s12, g12⟩ := h 12 _ rfl
        have e12 := g12 73 rfl
        obtain rfl : v12 = .bool isB := s12
        obtain ⟨v13, s13, g13⟩ := h 13 _ rfl
        have e13 := g13 74 rfl
        obtain rfl : v13 = .int .i64 nn := s13
        obtain ⟨v14, s14, g14⟩ := h 14 _ rfl
        have e14 := g14 75 rfl
        obtain rfl : v14 = .bool isB := s14
        obtain ⟨v15, s15, g15⟩ := h 15 _ rfl
        have e15 := g15 76 rfl
        obtain rfl : v15 = .bool false := s15
        obtain ⟨v16, s16, g16⟩ := h 16 _ rfl
        have e16 := g16 77 rfl
        obtain rfl : v16 = .bool false := s16
        have ha := act_of [(61, .bool isB), (62, .int .i64 nn), (63, .bool isB), (64, .bool false), (65, .bool false), (66, .agg #[.int .i64 tk.kind, .int .i64 tk.code, .int .i64 tk.opt, .slice A1 n1 d1, .bool tk.cut]), (67, .agg #[.int .i64 tk.kind, .int .i64 tk.code, .int .i64 tk.opt, .string ⟨tk.body.toArray⟩, .bool tk.cut]), (68, .agg #[.int .i64 tk.kind, .int .i64 tk.code, .int .i64 tk.opt, .string ⟨tk.body.toArray⟩, .bool tk.cut]), (69, .bool false), (70, .bool false), (71, .bool false), (72, .pointer (some ⟨B, 0, none⟩)), (73, .bool isB), (74, .int .i64 nn), (75, .bool isB), (76, .bool false), (77, .bool false)] rfl hsz hdf (by intro p hp; simp only [List.mem_cons, List.not_mem_nil, or_false] at hp; rcases hp with rfl | rfl | rfl | rfl | rfl | rfl | rfl | rfl | rfl | rfl | rfl | rfl | rfl | rfl | rfl | rfl | rfl <;> first | exact e0 | exact e1 | exact e2 | exact e3 | exact e4 | exact e5 | exact e6 | exact e7 | exact e8 | exact e9 | exact e10 | exact e11 | exact e12 | exact e13 | exact e14 | exact e15 | exact e16) hrest
        clear h hrest hsz hdf e0 e1 e2 e3 e4 e5 e6 e7 e8 e9 e10 e11 e12 e13 e14 e15 e16 g0 g1 g2 g3 g4 g5 g6 g7 g8 g9 g10 g11 g12 g13 g14 g15 g16
        subst ha
        simp only [List.foldl_cons, List.foldl_nil, Act.put, List.setIfInBounds_toArray, List.set_cons_succ, List.set_cons_zero]
        have hba9 : Below B w1 w9 := hba.trans (Below.mono hE (by have := hba.size; omega))
        have hm9 := HM.out w9 hE
        have H6 := F6.out
        have HG := HGT.out
        clear HX HY HB HM HID HGT F1 F2 F3 F6 hE
        cases isB with
        | true =>
          have h0 : 0 < nn := by simpa using HG
          clear HG
          go_wp2
          exact ⟨⟨k + 1, bv1, _, [], by omega, by go_num, rfl, hm9, by simpa using H6, by simp, hba9⟩, by simp [intOf]; omega⟩
        | false =>
          have h0 : ¬ 0 < nn := by simpa using HG
          clear HG
          go_wp2
          exact ⟨⟨k + 1, bv1, _, q ++ [l[k]], by omega, by go_num, rfl, hm9, by simpa using H6, by simp; omega, hba9⟩, by simp [intOf]; omega⟩
      -- GAD IacSteps13
    · obtain rfl : k = n := by omega
      have hbw : Ext w wr := Below.trans hw1 (hb.mono (by omega))
      have hxr : Blk wr w.heap.size 35 [.int .i64 x.kind, .int .i64 x.code, .int .i64 x.opt, .slice Ax nx cx, .bool x.cut] := hxk.below hb (by omega)
      have hyr : Blk wr (w.heap.size + 1) 35 [.int .i64 y.kind, .int .i64 y.code, .int .i64 y.opt, .slice Ay ny cy, .bool y.cut] := hyk.below hb (by omega)
      have hlr : w.heap.size < wr.heap.size := by omega
      have X0 : wr.cell? ⟨w.heap.size, 0, none⟩ = some (.int .i64 x.kind) := hxr.cell 0
      have hX : ∀ wx, Ext wr wx → wx.cell? ⟨w.heap.size, 0, none⟩ = some (.int .i64 x.kind) ∧ wx.cell? ⟨w.heap.size, 1, none⟩ = some (.int .i64 x.code) ∧ wx.cell? ⟨w.heap.size, 2, none⟩ = some (.int .i64 x.opt) ∧ wx.cell? ⟨w.heap.size, 3, none⟩ = some (.slice Ax nx cx) ∧ wx.cell? ⟨w.heap.size, 4, none⟩ = some (.bool x.cut) := fun wx h => by
        have := hxr.keep h
        exact ⟨this.cell 0, this.cell 1, this.cell 2, this.cell 3, this.cell 4⟩
      have hY : ∀ wx, Ext wr wx → wx.cell? ⟨w.heap.size + 1, 0, none⟩ = some (.int .i64 y.kind) ∧ wx.cell? ⟨w.heap.size + 1, 1, none⟩ = some (.int .i64 y.code) ∧ wx.cell? ⟨w.heap.size + 1, 2, none⟩ = some (.int .i64 y.opt) ∧ wx.cell? ⟨w.heap.size + 1, 3, none⟩ = some (.slice Ay ny cy) ∧ wx.cell? ⟨w.heap.size + 1, 4, none⟩ = some (.bool y.cut) := fun wx h => by
        have := hyr.keep h
        exact ⟨this.cell 0, this.cell 1, this.cell 2, this.cell 3, this.cell 4⟩
      obtain ⟨rr, hrr⟩ : ∃ rr, tokEq x y = rr := ⟨_, rfl⟩
      have hcs := tokEq_cases hrr
      have HX0 := Lib.hid X0
      have HC := Lib.hid hcs
      have HRR := Lib.hid hrr
      have HXR := Lib.hid hX
      have HYR := Lib.hid hY
      clear X0 hcs hrr hX hY hxr hyr hxk hyk hg hq hb hbx hby
      rcases (kind_cases x.kind) with h | h | h | h | h | ⟨h, hn⟩
      focus
        have x0 : wr.cell? ⟨w.heap.size, 0, none⟩ = some (.int .i64 1) := by rw [← h]; exact HX0.out
        have HW := Lib.hid (show (⟨(wordOf x.kind).toArray⟩ : ByteArray) = ⟨#[100, 97, 116, 97]⟩ by rw [h]; rfl)
        clear h
        go_wp2
        clear x0
        have hwf : Ext wr (wr.alloc (.cells #[.string ⟨#[100, 97, 116, 97]⟩, .string ⟨#[112, 108, 97, 105, 110]⟩, .string ⟨#[118, 101, 114, 98]⟩, .string ⟨#[115, 117, 98]⟩, .string ⟨#[98, 97, 100]⟩] 9)) := Ext.new1 _ _
        generalize wr.alloc (.cells #[.string ⟨#[100, 97, 116, 97]⟩, .string ⟨#[112, 108, 97, 105, 110]⟩, .string ⟨#[118, 101, 114, 98]⟩, .string ⟨#[115, 117, 98]⟩, .string ⟨#[98, 97, 100]⟩] 9) = wf at hwf ⊢
        obtain ⟨wd, hwd⟩ : ∃ wd : ByteArray, wd = ⟨#[100, 97, 116, 97]⟩ := ⟨_, rfl⟩
        rw [← hwd]
        have HWW := Lib.hid (show (⟨(wordOf x.kind).toArray⟩ : ByteArray) = wd by rw [HW.out, hwd])
        clear hwd HW
        have hwx := hbw.trans hwf
        have HX := Lib.hid (fun wx (h : Ext wf wx) => HXR.out wx (hwf.trans h))
        have HY := Lib.hid (fun wx (h : Ext wf wx) => HYR.out wx (hwf.trans h))
        clear HXR HYR hwf
        generalize w.heap.size = wh at *
      rotate_left
      focus
        have x0 : wr.cell? ⟨w.heap.size, 0, none⟩ = some (.int .i64 2) := by rw [← h]; exact HX0.out
        have HW := Lib.hid (show (⟨(wordOf x.kind).toArray⟩ : ByteArray) = ⟨#[112, 108, 97, 105, 110]⟩ by rw [h]; rfl)
        clear h
        go_wp2
        clear x0
        have hwf : Ext wr (wr.alloc (.cells #[.string ⟨#[100, 97, 116, 97]⟩, .string ⟨#[112, 108, 97, 105, 110]⟩, .string ⟨#[118, 101, 114, 98]⟩, .string ⟨#[115, 117, 98]⟩, .string ⟨#[98, 97, 100]⟩] 9)) := Ext.new1 _ _
        generalize wr.alloc (.cells #[.string ⟨#[100, 97, 116, 97]⟩, .string ⟨#[112, 108, 97, 105, 110]⟩, .string ⟨#[118, 101, 114, 98]⟩, .string ⟨#[115, 117, 98]⟩, .string ⟨#[98, 97, 100]⟩] 9) = wf at hwf ⊢
        obtain ⟨wd, hwd⟩ : ∃ wd : ByteArray, wd = ⟨#[112, 108, 97, 105, 110]⟩ := ⟨_, rfl⟩
        rw [← hwd]
        have HWW := Lib.hid (show (⟨(wordOf x.kind).toArray⟩ : ByteArray) = wd by rw [HW.out, hwd])
        clear hwd HW
        have hwx := hbw.trans hwf
        have HX := Lib.hid (fun wx (h : Ext wf wx) => HXR.out wx (hwf.trans h))
        have HY := Lib.hid (fun wx (h : Ext wf wx) => HYR.out wx (hwf.trans h))
        clear HXR HYR hwf
        generalize w.heap.size = wh at *
      rotate_left
      focus
        have x0 : wr.cell? ⟨w.heap.size, 0, none⟩ = some (.int .i64 3) := by rw [← h]; exact HX0.out
        have HW := Lib.hid (show (⟨(wordOf x.kind).toArray⟩ : ByteArray) = ⟨#[118, 101, 114, 98]⟩ by rw [h]; rfl)
        clear h
        go_wp2
        clear x0
        have hwf : Ext wr (wr.alloc (.cells #[.string ⟨#[100, 97, 116, 97]⟩, .string ⟨#[112, 108, 97, 105, 110]⟩, .string ⟨#[118, 101, 114, 98]⟩, .string ⟨#[115, 117, 98]⟩, .string ⟨#[98, 97, 100]⟩] 9)) := Ext.new1 _ _
        generalize wr.alloc (.cells #[.string ⟨#[100, 97, 116, 97]⟩, .string ⟨#[112, 108, 97, 105, 110]⟩, .string ⟨#[118, 101, 114, 98]⟩, .string ⟨#[115, 117, 98]⟩, .string ⟨#[98, 97, 100]⟩] 9) = wf at hwf ⊢
        obtain ⟨wd, hwd⟩ : ∃ wd : ByteArray, wd = ⟨#[118, 101, 114, 98]⟩ := ⟨_, rfl⟩
        rw [← hwd]
        have HWW := Lib.hid (show (⟨(wordOf x.kind).toArray⟩ : ByteArray) = wd by rw [HW.out, hwd])
        clear hwd HW
        have hwx := hbw.trans hwf
        have HX := Lib.hid (fun wx (h : Ext wf wx) => HXR.out wx (hwf.trans h))
        have HY := Lib.hid (fun wx (h : Ext wf wx) => HYR.out wx (hwf.trans h))
        clear HXR HYR hwf
        generalize w.heap.size = wh at *
      rotate_left
      focus
        have x0 : wr.cell? ⟨w.heap.size, 0, none⟩ = some (.int .i64 4) := by rw [← h]; exact HX0.out
        have HW := Lib.hid (show (⟨(wordOf x.kind).toArray⟩ : ByteArray) = ⟨#[115, 117, 98]⟩ by rw [h]; rfl)
        clear h
        go_wp2
        clear x0
        have hwf : Ext wr (wr.alloc (.cells #[.string ⟨#[100, 97, 116, 97]⟩, .string ⟨#[112, 108, 97, 105, 110]⟩, .string ⟨#[118, 101, 114, 98]⟩, .string ⟨#[115, 117, 98]⟩, .string ⟨#[98, 97, 100]⟩] 9)) := Ext.new1 _ _
        generalize wr.alloc (.cells #[.string ⟨#[100, 97, 116, 97]⟩, .string ⟨#[112, 108, 97, 105, 110]⟩, .string ⟨#[118, 101, 114, 98]⟩, .string ⟨#[115, 117, 98]⟩, .string ⟨#[98, 97, 100]⟩] 9) = wf at hwf ⊢
        obtain ⟨wd, hwd⟩ : ∃ wd : ByteArray, wd = ⟨#[115, 117, 98]⟩ := ⟨_, rfl⟩
        rw [← hwd]
        have HWW := Lib.hid (show (⟨(wordOf x.kind).toArray⟩ : ByteArray) = wd by rw [HW.out, hwd])
        clear hwd HW
        have hwx := hbw.trans hwf
        have HX := Lib.hid (fun wx (h : Ext wf wx) => HXR.out wx (hwf.trans h))
        have HY := Lib.hid (fun wx (h : Ext wf wx) => HYR.out wx (hwf.trans h))
        clear HXR HYR hwf
        generalize w.heap.size = wh at *
      rotate_left
      focus
        have x0 : wr.cell? ⟨w.heap.size, 0, none⟩ = some (.int .i64 5) := by rw [← h]; exact HX0.out
        have HW := Lib.hid (show (⟨(wordOf x.kind).toArray⟩ : ByteArray) = ⟨#[98, 97, 100]⟩ by rw [h]; rfl)
        clear h
        go_wp2
        clear x0
        have hwf : Ext wr (wr.alloc (.cells #[.string ⟨#[100, 97, 116, 97]⟩, .string ⟨#[112, 108, 97, 105, 110]⟩, .string ⟨#[118, 101, 114, 98]⟩, .string ⟨#[115, 117, 98]⟩, .string ⟨#[98, 97, 100]⟩] 9)) := Ext.new1 _ _
        generalize wr.alloc (.cells #[.string ⟨#[100, 97, 116, 97]⟩, .string ⟨#[112, 108, 97, 105, 110]⟩, .string ⟨#[118, 101, 114, 98]⟩, .string ⟨#[115, 117, 98]⟩, .string ⟨#[98, 97, 100]⟩] 9) = wf at hwf ⊢
        obtain ⟨wd, hwd⟩ : ∃ wd : ByteArray, wd = ⟨#[98, 97, 100]⟩ := ⟨_, rfl⟩
        rw [← hwd]
        have HWW := Lib.hid (show (⟨(wordOf x.kind).toArray⟩ : ByteArray) = wd by rw [HW.out, hwd])
        clear hwd HW
        have hwx := hbw.trans hwf
        have HX := Lib.hid (fun wx (h : Ext wf wx) => HXR.out wx (hwf.trans h))
        have HY := Lib.hid (fun wx (h : Ext wf wx) => HYR.out wx (hwf.trans h))
        clear HXR HYR hwf
        generalize w.heap.size = wh at *
      rotate_left
      focus
        have HW := Lib.hid h
        have x0 := HX0.out
        have hnk : (¬ (1 : Int) ≤ x.kind) ∨ ((1 : Int) ≤ x.kind ∧ ¬ x.kind ≤ 5) := by omega
        clear h hn
        obtain ⟨wd, hwd⟩ : ∃ wd : ByteArray, wd = ⟨#[]⟩ := ⟨_, rfl⟩
        have HWD := Lib.hid hwd
        clear hwd
        rcases hnk with h1 | ⟨h1, h2⟩
        all_goals
          go_wp2
          rw [← HWD.out]
      all_goals (try clear x0)
      rotate_right
      rotate_right
      all_goals (try (have HWW := Lib.hid (show (⟨(wordOf x.kind).toArray⟩ : ByteArray) = wd by rw [HW.out, HWD.out]); clear HWD HW; have hwx := hbw; have HX := HXR; have HY := HYR; clear HXR HYR; generalize wr = wf at *; generalize w.heap.size = wh at *))
      all_goals clear HX0
      all_goals
        -- DAG IacSteps21
        refine wp_region_dag (E := Ext) (w0 := wf) (Φ := fun i v w => match i with | 0 => (v = .agg #[.int .i64 x.kind, .int .i64 x.code, .int .i64 x.opt, .slice Ax nx cx, .bool x.cut]) | 1 => (v = .agg #[.int .i64 y.kind, .int .i64 y.code, .int .i64 y.opt, .slice Ay ny cy, .bool y.cut]) | 2 => (v = .bool rr) | 3 => (v = .agg #[.int .i64 x.kind, .int .i64 x.code, .int .i64 x.opt, .slice Ax nx cx, .bool x.cut]) | 4 => (v = .agg #[.int .i64 x.kind, .int .i64 x.code, .int .i64 x.opt, .string ⟨x.body.toArray⟩, .bool x.cut]) | 5 => (v = .agg #[.int .i64 y.kind, .int .i64 y.code, .int .i64 y.opt, .slice Ay ny cy, .bool y.cut]) | 6 => (v = .agg #[.int .i64 y.kind, .int .i64 y.code, .int .i64 y.opt, .string ⟨y.body.toArray⟩, .bool y.cut]) | 7 => (v = .bool rr) | 8 => (v = .bool true) | 9 => (v = .bool true) | 10 => (v = .pointer (some ⟨wh, 0, none⟩)) | 11 => (v = .int .i64 x.kind) | 12 => (v = .string wd) | 13 => (v = .string wd) | 14 => (v = .bool true) | 15 => (v = .bool true) | 16 => (v = .bool true) | _ => True) (show Try.prog.follows .mixedOrders = true from Checked.mixed Try.checked) 111 rfl (by decide +kernel) ?_ ((Below.refl _ _).drew) ?_ ⟨?_, ?_, ?_, ?_, ?_, ?_, ?_, ?_, ?_, ?_, ?_, ?_, ?_, ?_, ?_, ?_, ?_, trivial⟩ ?_
        · intro i v w w' h hE
          match i, h with
          | 0, h => exact h
          | 1, h => exact h
          | 2, h => exact h
          | 3, h => exact h
          | 4, h => exact h
          | 5, h => exact h
          | 6, h => exact h
          | 7, h => exact h
          | 8, h => exact h
          | 9, h => exact h
          | 10, h => exact h
          | 11, h => exact h
          | 12, h => exact h
          | 13, h => exact h
          | 14, h => exact h
          | 15, h => exact h
          | 16, h => exact h
          | _ + 17, _ => trivial
        · exact fun w w' h h' => h.trans h'
        · -- 0: t95 := load 35 t4 
          intro ac wx hE hsz hdf h
          have e4 : ac.tmps[4]? = some (.pointer (some ⟨wh, 0, none⟩)) := by obtain ⟨v, h1, h2⟩ := h 4 (by decide +kernel); exact h1.trans (h2.symm.trans rfl)
          clear h hsz hdf
          obtain ⟨x0, x1, x2, x3, x4⟩ := HX.out wx hE
          go_wp2
          exact ⟨_, rfl, rfl, Ext.refl _⟩
        · -- 1: t96 := load 35 t5 
          intro ac wx hE hsz hdf h
          have e5 : ac.tmps[5]? = some (.pointer (some ⟨wh + 1, 0, none⟩)) := by obtain ⟨v, h1, h2⟩ := h 5 (by decide +kernel); exact h1.trans (h2.symm.trans rfl)
          clear h hsz hdf
          obtain ⟨y0, y1, y2, y3, y4⟩ := HY.out wx hE
          go_wp2
          exact ⟨_, rfl, rfl, Ext.refl _⟩
        · -- 2: t97 := call { value (Operand.func 19), args := #[t95, t96], argTypes := #[35, 35] } 
          intro ac wx hE hsz hdf h
          have e95 : ac.tmps[95]? = some (.agg #[.int .i64 x.kind, .int .i64 x.code, .int .i64 x.opt, .slice Ax nx cx, .bool x.cut]) := by obtain ⟨v, h1, h2⟩ := h 95 (by decide +kernel); rw [h1]; exact congrArg some h2
          have e96 : ac.tmps[96]? = some (.agg #[.int .i64 y.kind, .int .i64 y.code, .int .i64 y.opt, .slice Ay ny cy, .bool y.cut]) := by obtain ⟨v, h1, h2⟩ := h 96 (by decide +kernel); rw [h1]; exact congrArg some h2
          clear h hsz hdf
          go_wp2_with ((go_at_call 19; refine (iacSame x y Ax Ay nx cx ny cy _ (hx.keep (hwx.trans hE)) (hy.keep (hwx.trans hE))).mono ?_; rintro e w' ⟨rfl, hb2⟩; rw [HRR.out]))
          exact ⟨_, rfl, rfl, hb2⟩
        · -- 3: t98 := load 35 t4 
          intro ac wx hE hsz hdf h
          have e4 : ac.tmps[4]? = some (.pointer (some ⟨wh, 0, none⟩)) := by obtain ⟨v, h1, h2⟩ := h 4 (by decide +kernel); exact h1.trans (h2.symm.trans rfl)
          clear h hsz hdf
          obtain ⟨x0, x1, x2, x3, x4⟩ := HX.out wx hE
          go_wp2
          exact ⟨_, rfl, rfl, Ext.refl _⟩
        · -- 4: t99 := call { value (Operand.func 17), args := #[t98], argTypes := #[35] } 
          intro ac wx hE hsz hdf h
          have e98 : ac.tmps[98]? = some (.agg #[.int .i64 x.kind, .int .i64 x.code, .int .i64 x.opt, .slice Ax nx cx, .bool x.cut]) := by obtain ⟨v, h1, h2⟩ := h 98 (by decide +kernel); rw [h1]; exact congrArg some h2
          clear h hsz hdf
          go_wp2_with ((go_at_call 17; refine (lawOf x.kind x.code x.opt Ax nx cx x.cut x.body _ (hx.keep (hwx.trans hE))).mono ?_; rintro e w' ⟨rfl, hb2⟩))
          exact ⟨_, rfl, rfl, hb2⟩
        · -- 5: t100 := load 35 t5 
          intro ac wx hE hsz hdf h
          have e5 : ac.tmps[5]? = some (.pointer (some ⟨wh + 1, 0, none⟩)) := by obtain ⟨v, h1, h2⟩ := h 5 (by decide +kernel); exact h1.trans (h2.symm.trans rfl)
          clear h hsz hdf
          obtain ⟨y0, y1, y2, y3, y4⟩ := HY.out wx hE
          go_wp2
          exact ⟨_, rfl, rfl, Ext.refl _⟩
        · -- 6: t101 := call { value (Operand.func 17), args := #[t100], argTypes := #[35] } 
          intro ac wx hE hsz hdf h
          have e100 : ac.tmps[100]? = some (.agg #[.int .i64 y.kind, .int .i64 y.code, .int .i64 y.opt, .slice Ay ny cy, .bool y.cut]) := by obtain ⟨v, h1, h2⟩ := h 100 (by decide +kernel); rw [h1]; exact congrArg some h2
          clear h hsz hdf
          go_wp2_with ((go_at_call 17; refine (lawOf y.kind y.code y.opt Ay ny cy y.cut y.body _ (hy.keep (hwx.trans hE))).mono ?_; rintro e w' ⟨rfl, hb2⟩))
          exact ⟨_, rfl, rfl, hb2⟩
        · -- 7: t102 := binOp BinOp.eql 40 t99 t101 40 
          intro ac wx hE hsz hdf h
          have e99 : ac.tmps[99]? = some (.agg #[.int .i64 x.kind, .int .i64 x.code, .int .i64 x.opt, .string ⟨x.body.toArray⟩, .bool x.cut]) := by obtain ⟨v, h1, h2⟩ := h 99 (by decide +kernel); rw [h1]; exact congrArg some h2
          have e101 : ac.tmps[101]? = some (.agg #[.int .i64 y.kind, .int .i64 y.code, .int .i64 y.opt, .string ⟨y.body.toArray⟩, .bool y.cut]) := by obtain ⟨v, h1, h2⟩ := h 101 (by decide +kernel); rw [h1]; exact congrArg some h2
          clear h hsz hdf
          rcases HC.out with ⟨c1, hr⟩ | ⟨c1, c2, hr⟩ | ⟨c1, c2, c3, hr⟩ | ⟨c1, c2, c3, c4, hr⟩ | ⟨c1, c2, c3, c4, c5, hr⟩ | ⟨c1, c2, c3, c4, c5, hr⟩
          all_goals
            have HR := Lib.hid hr
            clear hr
            go_wp2
            exact ⟨_, rfl, by rw [HR.out], Ext.refl _⟩
        · -- 8: t103 := binOp BinOp.eql 4 t97 t102 4 
          intro ac wx hE hsz hdf h
          have e97 : ac.tmps[97]? = some (.bool rr) := by obtain ⟨v, h1, h2⟩ := h 97 (by decide +kernel); rw [h1]; exact congrArg some h2
          have e102 : ac.tmps[102]? = some (.bool rr) := by obtain ⟨v, h1, h2⟩ := h 102 (by decide +kernel); rw [h1]; exact congrArg some h2
          clear h hsz hdf
          go_wp2
          exact ⟨_, rfl, by simp, Ext.refl _⟩
        · -- 9: t104 := move t103 
          intro ac wx hE hsz hdf h
          have e103 : ac.tmps[103]? = some (.bool true) := by obtain ⟨v, h1, h2⟩ := h 103 (by decide +kernel); rw [h1]; exact congrArg some h2
          clear h hsz hdf
          go_wp2
          exact ⟨_, rfl, rfl, Ext.refl _⟩
        · -- 10: t105 := fieldAddr 35 t4 0 (9, True)
          intro ac wx hE hsz hdf h
          have e4 : ac.tmps[4]? = some (.pointer (some ⟨wh, 0, none⟩)) := by obtain ⟨v, h1, h2⟩ := h 4 (by decide +kernel); exact h1.trans (h2.symm.trans rfl)
          have e104 : ac.tmps[104]? = some (.bool true) := by obtain ⟨v, h1, h2⟩ := h 104 (by decide +kernel); rw [h1]; exact congrArg some h2
          clear h hsz hdf
          go_wp2
          exact ⟨_, rfl, rfl, Ext.refl _⟩
        · -- 11: t106 := load 3 t105 (9, True)
          intro ac wx hE hsz hdf h
          have e105 : ac.tmps[105]? = some (.pointer (some ⟨wh, 0, none⟩)) := by obtain ⟨v, h1, h2⟩ := h 105 (by decide +kernel); rw [h1]; exact congrArg some h2
          have e104 : ac.tmps[104]? = some (.bool true) := by obtain ⟨v, h1, h2⟩ := h 104 (by decide +kernel); rw [h1]; exact congrArg some h2
          clear h hsz hdf
          obtain ⟨x0, x1, x2, x3, x4⟩ := HX.out wx hE
          go_wp2
          exact ⟨_, rfl, rfl, Ext.refl _⟩
        · -- 12: t107 := call { value (Operand.func 20), args := #[t106], argTypes := #[3] } (9, True)
          intro ac wx hE hsz hdf h
          have e106 : ac.tmps[106]? = some (.int .i64 x.kind) := by obtain ⟨v, h1, h2⟩ := h 106 (by decide +kernel); rw [h1]; exact congrArg some h2
          have e104 : ac.tmps[104]? = some (.bool true) := by obtain ⟨v, h1, h2⟩ := h 104 (by decide +kernel); rw [h1]; exact congrArg some h2
          clear h hsz hdf
          go_wp2_with ((go_at_call 20; refine (iacWord x.kind _).mono ?_; rintro e w' ⟨rfl, rfl⟩; rw [HWW.out]))
          exact ⟨_, rfl, rfl, Ext.refl _⟩
        · -- 13: t108 := move t14 (9, True)
          intro ac wx hE hsz hdf h
          have e14 : ac.tmps[14]? = some (.string wd) := by obtain ⟨v, h1, h2⟩ := h 14 (by decide +kernel); exact h1.trans (h2.symm.trans rfl)
          have e104 : ac.tmps[104]? = some (.bool true) := by obtain ⟨v, h1, h2⟩ := h 104 (by decide +kernel); rw [h1]; exact congrArg some h2
          clear h hsz hdf
          go_wp2
          exact ⟨_, rfl, rfl, Ext.refl _⟩
        · -- 14: t109 := binOp BinOp.eql 9 t107 t108 9 (9, True)
          intro ac wx hE hsz hdf h
          have e107 : ac.tmps[107]? = some (.string wd) := by obtain ⟨v, h1, h2⟩ := h 107 (by decide +kernel); rw [h1]; exact congrArg some h2
          have e108 : ac.tmps[108]? = some (.string wd) := by obtain ⟨v, h1, h2⟩ := h 108 (by decide +kernel); rw [h1]; exact congrArg some h2
          have e104 : ac.tmps[104]? = some (.bool true) := by obtain ⟨v, h1, h2⟩ := h 104 (by decide +kernel); rw [h1]; exact congrArg some h2
          clear h hsz hdf
          go_wp2
          exact ⟨_, rfl, by simp, Ext.refl _⟩
        · -- 15: t110 := pick t104 t109 (const (Value.bool false)) 
          intro ac wx hE hsz hdf h
          have e104 : ac.tmps[104]? = some (.bool true) := by obtain ⟨v, h1, h2⟩ := h 104 (by decide +kernel); rw [h1]; exact congrArg some h2
          have e109 : ac.tmps[109]? = some (.bool true) := by obtain ⟨v, h1, h2⟩ := h 109 (by decide +kernel); rw [h1]; exact congrArg some h2
          clear h hsz hdf
          go_wp2
          exact ⟨_, rfl, rfl, Ext.refl _⟩
        · -- 16: t6 := assign t110 
          intro ac wx hE hsz hdf h
          have e110 : ac.tmps[110]? = some (.bool true) := by obtain ⟨v, h1, h2⟩ := h 110 (by decide +kernel); rw [h1]; exact congrArg some h2
          clear h hsz hdf
          go_wp2
          exact ⟨_, rfl, rfl, Ext.refl _⟩
        · intro ac w9 hE hsz hdf h hrest
          have e6 : ac.tmps[6]? = some (.bool true) := by obtain ⟨v, h1, h2⟩ := h 16 _ rfl; rw [h2 6 rfl]; exact congrArg some h1
          clear h hrest hsz
          have HDF := Lib.hid hdf
          clear hdf
          go_wp2
          refine bodyPost_ret (results_tmp rfl _ _ _) HDF.out ⟨by simp [e6], ?_⟩
          exact hwx.trans hE
        -- GAD IacSteps21
end Go.Proofs.Ytbipkbpcjkgohaa
