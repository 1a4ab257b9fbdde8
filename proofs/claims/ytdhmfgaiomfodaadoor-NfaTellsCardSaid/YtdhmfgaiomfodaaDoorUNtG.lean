/- Put together: Nf9, Nf10, Nf11, Nf14, Nf15, Nf16, DagL, OpenProg. -/
import Derived.Test.YtdhmfgaiomfodaaDoorUNsG
import Derived.Test.YtdhmfgaiomfodaaDoorUTgF
import Derived.BigQuiet
import Derived.Deep.LoopGhost
import Derived.Deep.DeepCutAuto
import Derived.Test.YtdhmfgaiomfodaaDoorUNsH
import Derived.Test.YtdhmfgaiomfodaaDoorUTgL
import Derived.Test.YtdhmfgaiomfodaaDoorUThE
import Derived.Test.YtdhmfgaiomfodaaDoorUNsB
import Derived.Deep.Slices
namespace Go.Proofs.YtdhmfgaiomfodaaDoor
open Go Go.RowKit
attribute [local irreducible] wd

def digit (n : Nat) : List UInt8 := [UInt8.ofNat (48 + n)]
set_option maxHeartbeats 2000000 in
set_option maxRecDepth 20000 in
theorem small9 (n : Nat) (hn : n < 4) (w : World) :
    Calls Tryd.prog 103 #[.int .i64 (n : Nat)] w fun e w' => e = .returned (.string ⟨(digit n).toArray⟩) ∧ w' = w := by
  have h4 : n = 0 ∨ n = 1 ∨ n = 2 ∨ n = 3 := by omega
  clear hn
  rcases h4 with rfl | rfl | rfl | rfl
  all_goals
    go_enter Tryd.func103, Tryd.ntmps103
    go_wp2
    go_ret
    exact ⟨rfl, rfl⟩
set_option maxHeartbeats 2000000 in
set_option maxRecDepth 20000 in
theorem format9 (n : Nat) (hn : n < 4) (w : World) :
    Calls Tryd.prog 91 #[.int .i64 (n : Nat), .int .i64 10] w fun e w' => e = .returned (.string ⟨(digit n).toArray⟩) ∧ w' = w := by
  have H := Lib.hid (small9 n hn w)
  have h0 : (0 : Int) ≤ (n : Int) := by omega
  have h1 : (n : Int) < 100 := by omega
  clear hn
  go_enter Tryd.func91, Tryd.ntmps91
  go_wp2_with (go_at_call 103; refine H.out.mono ?_; rintro e wh ⟨rfl, hwh⟩; obtain rfl : w = wh := hwh.symm)
  go_ret
  exact ⟨rfl, rfl⟩
theorem itoaI9 (n : Nat) (hn : n < 4) (w : World) :
    Calls Tryd.prog 77 #[.int .i64 (n : Nat)] w fun e w' => e = .returned (.string ⟨(digit n).toArray⟩) ∧ w' = w := by
  have H := Lib.hid (format9 n hn w)
  clear hn
  go_enter Tryd.func77, Tryd.ntmps77
  go_wp2_with (go_at_call 91; refine H.out.mono ?_; rintro e wh ⟨rfl, hwh⟩; obtain rfl : w = wh := hwh.symm)
  go_ret
  exact ⟨rfl, rfl⟩
theorem itoa9 (n : Nat) (hn : n < 4) (w : World) :
    Calls Tryd.prog 53 #[.int .i64 (n : Nat)] w fun e w' => e = .returned (.string ⟨(digit n).toArray⟩) ∧ w' = w := by
  have H := Lib.hid (itoaI9 n hn w)
  clear hn
  go_enter Tryd.func53, Tryd.ntmps53
  go_wp2_with (go_at_call 77; refine H.out.mono ?_; rintro e wh ⟨rfl, hwh⟩; obtain rfl : w = wh := hwh.symm)
  go_ret
  exact ⟨rfl, rfl⟩

def LineOf (i : Ins) (l : List UInt8) : Prop := ∀ w : World, Tab w → Calls Tryd.prog 54 #[.agg (insV i).toArray] w fun e w' => e = .returned (.string ⟨l.toArray⟩) ∧ Ext w w'
set_option maxHeartbeats 2000000 in
set_option maxRecDepth 20000 in
theorem line_match (p : Nat → Bool) : LineOf ⟨5, 0, 0, 0, p⟩ [109, 97, 116, 99, 104] := by
  intro w _
  have HX := Lib.hid (Ext.new1 w (.cells (insV ⟨5, 0, 0, 0, p⟩).toArray 64))
  unfold insV at HX ⊢
  go_enter Tryd.func54, Tryd.ntmps54
  go_wp2
  go_ret
  exact ⟨rfl, HX.out⟩
set_option maxHeartbeats 2000000 in
set_option maxRecDepth 20000 in
theorem line_jump (x : Nat) (hx : x < 4) (p : Nat → Bool) : LineOf ⟨2, (x : Nat), 0, 0, p⟩ ([106, 117, 109, 112, 32] ++ digit x) := by
  intro w _
  have HX := Lib.hid (Ext.new1 w (.cells (insV ⟨2, (x : Nat), 0, 0, p⟩).toArray 64))
  obtain ⟨D, hD⟩ : ∃ D, digit x = D := ⟨_, rfl⟩
  have HI := Lib.hid (fun w => itoa9 x hx w)
  have hl : D.length = 1 := by rw [← hD]; rfl
  have hm : ¬ 9223372036854775807 < 5 + D.length := by omega
  have hm2 : ¬ 9223372036854775807 < D.length + 5 := by omega
  rw [hD] at HI ⊢
  clear hx hD hl
  unfold insV at HX ⊢
  go_enter Tryd.func54, Tryd.ntmps54
  go_wp2_with (go_at_call 53; refine (HI.out _).mono ?_; rintro e wh ⟨rfl, hwh⟩; subst hwh)
  go_ret
  exact ⟨rfl, HX.out⟩
theorem itoaQ (n : Nat) (hn : n < 4) (w : World) :
    Calls Tryd.prog 53 #[.int .i64 (n : Nat)] w fun e w' => e = .returned (.string ⟨(digit n).toArray⟩) ∧ ∃ m, w' = w.drewN m := (itoa9 n hn w).mono fun _ _ h => ⟨h.1, 0, h.2⟩
set_option maxHeartbeats 2000000 in
set_option maxRecDepth 20000 in
theorem line_split (x y : Nat) (hx : x < 4) (hy : y < 4) (p : Nat → Bool) : LineOf ⟨3, (x : Nat), (y : Nat), 0, p⟩ ([115, 112, 108, 105, 116, 32] ++ digit x ++ [32] ++ digit y) := by
  intro w _
  have HX := Lib.hid (Ext.new1 w (.cells (insV ⟨3, (x : Nat), (y : Nat), 0, p⟩).toArray 64))
  have HB := Lib.hid (Blk.newL w 64 (insV ⟨3, (x : Nat), (y : Nat), 0, p⟩))
  obtain ⟨D, hD⟩ : ∃ D, digit x = D := ⟨_, rfl⟩
  obtain ⟨D2, hD2⟩ : ∃ D2, digit y = D2 := ⟨_, rfl⟩
  have HI := Lib.hid (fun w => itoaQ x hx w)
  have HI2 := Lib.hid (fun w => itoaQ y hy w)
  have hl : D.length = 1 := by rw [← hD]; rfl
  have hl2 : D2.length = 1 := by rw [← hD2]; rfl
  have hm : ¬ 9223372036854775807 < 6 + D.length := by omega
  have hm2 : ¬ 9223372036854775807 < D.length + 6 + 1 := by omega
  have hm3 : ¬ 9223372036854775807 < D.length + 6 + 1 + D2.length := by omega
  have HM := Lib.hid (And.intro hl hl2)
  rw [hD, hD2]
  rw [hD] at HI
  rw [hD2] at HI2
  clear hx hD hl hy hD2 hl2
  unfold insV at HX HB ⊢
  go_enter Tryd.func54, Tryd.ntmps54
  go_upto_region 7 with fail
  generalize w.alloc (.cells _ 64) = wa at *
  generalize w.heap.size = gi at *
  have c1 : wa.cell? ⟨gi, 1, none⟩ = some (.int .i64 (x : Nat)) := HB.out.cell 1
  have c2 : wa.cell? ⟨gi, 2, none⟩ = some (.int .i64 (y : Nat)) := HB.out.cell 2
  go_quiet (first
    | (go_at_call 53; refine Calls.quiet_of (HI.out _))
    | (go_at_call 53; refine Calls.quiet_of (HI2.out _)))
  have hX := below_drewN HX.out nq
  go_wp2
  go_ret
  exact ⟨by simp, hX⟩
set_option maxHeartbeats 2000000 in
set_option maxRecDepth 20000 in
theorem line_byte (p : Nat → Bool) (l : List UInt8) (h : textT p = l) (hl : l.length ≤ 1000) : LineOf ⟨1, 0, 0, 0, p⟩ ([98, 121, 116, 101, 32] ++ l) := by
  intro w hT
  have hx := Ext.new1 w (.cells (insV ⟨1, 0, 0, 0, p⟩).toArray 64)
  have HX := Lib.hid hx
  have HB := Lib.hid (Blk.newL w 64 (insV ⟨1, 0, 0, 0, p⟩))
  have HT := Lib.hid (hT.keep hx)
  have HH := Lib.hid h
  have hm : ¬ 9223372036854775807 < 5 + l.length := by omega
  have hm2 : ¬ 9223372036854775807 < l.length + 5 := by omega
  clear h hl hT hx
  unfold insV at HX HB HT ⊢
  go_enter Tryd.func54, Tryd.ntmps54
  go_upto_region 3 with fail
  generalize w.alloc (.cells _ 64) = wa at *
  generalize w.heap.size = gi at *
  have c4 : wa.cell? ⟨gi, 4, none⟩ = some (.int .u64 (wd p 0 : Nat)) := HB.out.cell 4
  have c5 : wa.cell? ⟨gi, 5, none⟩ = some (.int .u64 (wd p 1 : Nat)) := HB.out.cell 5
  have c6 : wa.cell? ⟨gi, 6, none⟩ = some (.int .u64 (wd p 2 : Nat)) := HB.out.cell 6
  have c7 : wa.cell? ⟨gi, 7, none⟩ = some (.int .u64 (wd p 3 : Nat)) := HB.out.cell 7
  go_wp2_with (go_at_call 78; refine (clText p wa HT.out).mono ?_; rw [HH.out]; rintro e w1 ⟨rfl, hx1⟩)
  go_ret
  exact ⟨by simp, Ext.trans HX.out hx1⟩

def nfExL : List UInt8 := [97, 42]
def nfEx : T := .node 5 0 false noP [oneT 97]
theorem nfEx_parse : parseR nfExL = .ok nfEx 2 0 := by kernel_rfl
theorem nfEx_comp : compB nfEx = true := by kernel_rfl
def nfExC : List Ins := [⟨3, ((1 : Nat) : Int), ((3 : Nat) : Int), 0, fun _ => false⟩, ⟨1, 0, 0, 0, fun j => j == 97⟩, ⟨2, ((0 : Nat) : Int), 0, 0, fun _ => false⟩, ⟨5, 0, 0, 0, fun _ => false⟩]
theorem nfEx_code : progT nfEx = nfExC := by rfl
def nfExT : List (List UInt8) := [[115, 112, 108, 105, 116, 32, 49, 32, 51], [98, 121, 116, 101, 32, 97], [106, 117, 109, 112, 32, 48], [109, 97, 116, 99, 104]]
theorem nfEx_line (j : Nat) (i : Ins) (l : List UInt8) (hi : nfExC[j]? = some i) (hl : nfExT[j]? = some l) : LineOf i l ∧ l.length ≤ 9 ∧ j < 4 := by
  match j, hi, hl with
  | 0, hi, hl => cases hi; cases hl; exact ⟨line_split 1 3 (by omega) (by omega) _, by decide, by omega⟩
  | 1, hi, hl => cases hi; cases hl; exact ⟨line_byte _ [97] (by kernel_rfl) (by decide), by decide, by omega⟩
  | 2, hi, hl => cases hi; cases hl; exact ⟨line_jump 0 (by omega) _, by decide, by omega⟩
  | 3, hi, hl => cases hi; cases hl; exact ⟨line_match _, by decide, by omega⟩
  | j + 4, hi, hl => simp [nfExC] at hi
end Go.Proofs.YtdhmfgaiomfodaaDoor
namespace Go.Proofs.YtdhmfgaiomfodaaDoor
open Go Go.RowKit
attribute [local irreducible] wd

theorem rd_at_strs {w : World} {b o n : Nat} {T : List (List UInt8)} (h : Rd w 1 (some ⟨b, o, none⟩) n (strsV T)) {k : Nat} {t : List UInt8} (ht : T[k]? = some t) : w.cell? ⟨b, o + k, none⟩ = some (.string ⟨t.toArray⟩) := by
  have hk : k < T.length := (List.getElem?_eq_some_iff.1 ht).1
  obtain ⟨b', o', e, _, hc⟩ := h.2 (by simp [strsV]; omega)
  cases e
  exact hc k _ (by simp [strsV, ht, strV])

set_option maxHeartbeats 1000000 in
theorem numSame (X : List (List UInt8)) (A B : Option Addr) (n c m d : Nat) (w : World) (hx : Rd w 1 A n (strsV X)) (hy : Rd w 1 B m (strsV X)) (hn : n ≤ 1000000) :
    Calls Tryd.prog 22 #[.slice A n c, .slice B m d] w fun e w' => e = .returned (.bool true) ∧ w' = w := by
  have hnm : n = m := hx.len_strs.symm.trans hy.len_strs
  subst hnm
  have HX := Lib.hid hx
  have HY := Lib.hid hy
  clear hx hy
  go_enter Tryd.func22, Tryd.ntmps22
  go_wp2
  go_loopg [14] n (fun g i wr => ∃ k : Nat, k ≤ n ∧ g = n - k ∧ i = .int .i64 (k : Nat) ∧ wr = w)
  case atStart => exact ⟨0, Nat.zero_le _, rfl, rfl, rfl⟩
  case round =>
    obtain ⟨k, hk, rfl, rfl, hwr⟩ := hrel
    obtain rfl : w = wr := hwr.symm
    by_cases hlt : k < n
    · have hkT : k < X.length := by rw [HX.out.len_strs]; exact hlt
      obtain ⟨t, ht⟩ : ∃ t, X[k]? = some t := ⟨_, List.getElem?_eq_getElem hkT⟩
      obtain ⟨b, o, rfl, _, _⟩ := HX.out.2 (by simp [strsV]; omega)
      obtain ⟨b2, o2, rfl, _, _⟩ := HY.out.2 (by simp [strsV]; omega)
      have c1 := rd_at_strs HX.out ht
      have c2 := rd_at_strs HY.out ht
      have hlt' : (k : Int) < (n : Int) := by omega
      have hw : IntKind.i64.wrap ((k : Int) + 1) = (k : Int) + 1 := wrap_id (by omega) (by omega)
      clear ht hkT
      go_wp2
      go_roundg (n - (k + 1))
      case measure => omega
      case rel => exact ⟨k + 1, by omega, rfl, by go_num, rfl⟩
    · obtain rfl : k = n := by omega
      have hlt' : ¬ (k : Int) < (k : Int) := by omega
      go_wp2
      go_ret
      exact ⟨rfl, rfl⟩

def nfExO : List (List UInt8) := [[48, 32, 115, 112, 108, 105, 116, 32, 49, 32, 51], [49, 32, 98, 121, 116, 101, 32, 97], [50, 32, 106, 117, 109, 112, 32, 48], [51, 32, 109, 97, 116, 99, 104]]
theorem nfEx_out (j : Nat) (l : List UInt8) (hl : nfExT[j]? = some l) : nfExO[j]? = some (digit j ++ [32] ++ l) := by
  match j, hl with
  | 0, hl => cases hl; rfl
  | 1, hl => cases hl; rfl
  | 2, hl => cases hl; rfl
  | 3, hl => cases hl; rfl
  | j + 4, hl => simp [nfExT] at hl

def LinesR (w0 : World) (N : Nat) (O : List (List UInt8)) (e : Ending) (w' : World) : Prop := ∃ B c2, e = .returned (.slice B N c2) ∧ Rd w' 1 B N (strsV O) ∧ Ext w0 w'
structure LinesOK (c : List Ins) (O : List (List UInt8)) : Prop where
  many : c.length ≤ 100000
  same : O.length = c.length
  each : ∀ j xi, c[j]? = some xi → ∃ D l, O[j]? = some (D ++ [32] ++ l) ∧ LineOf xi l ∧ l.length ≤ 1000000 ∧ D.length ≤ 100 ∧ ∀ w : World, Calls Tryd.prog 53 #[.int .i64 (j : Nat)] w fun e w' => e = .returned (.string ⟨D.toArray⟩) ∧ Ext w w'
theorem tab_chg {w w' : World} {X : List Nat} (h : Tab w) (hc : Chg X w w') (h0 : 17 ∉ X) : Tab w' := fun j hj => hc.cell (h j hj) h0
theorem tab_lt {w : World} (h : Tab w) : 17 < w.heap.size := block_lt_of_cell (h 0 (by decide))
def OneS (b : Nat) (o : List UInt8) (v : Value) (w : World) : Prop := ∃ vb : Nat, v = .slice (some ⟨vb, 0, none⟩) 1 1 ∧ Blk w vb 9 [strV o] ∧ b ≤ vb
def OutV (B1 : Nat) (O : List (List UInt8)) (j : Nat) (v : Value) (w : World) : Prop := ∃ A9 c9, v = .slice A9 (j + 1) c9 ∧ w.ownsRow B1 9 1 v (j + 1) (strsV (O.take (j + 1)))
set_option maxHeartbeats 8000000 in
set_option maxRecDepth 20000 in
theorem nfLines (c : List Ins) (O : List (List UInt8)) (hL : LinesOK c O) (A : Option Addr) (cc : Nat) (G : Int) (N : Nat) (hN : c.length = N) (w0 : World) (hR : Rd w0 8 A N (codeV c)) (hT : Tab w0) :
    Calls Tryd.prog 23 #[.agg #[.slice A N cc, .int .i64 G]] w0 fun e w' => LinesR w0 N O e w' := by
  have hN5 : N ≤ 100000 := hN ▸ hL.many
  have HG := Lib.hid (tab_lt hT)
  have hx0 := Ext.new1 w0 (.cells #[.slice A N cc, .int .i64 G] 32)
  have HX := Lib.hid hx0
  obtain ⟨B0, hB0⟩ : ∃ B0, w0.heap.size = B0 := ⟨_, rfl⟩
  have HP := Lib.hid (Blk.newA (w := w0) hB0 32 [.slice A N cc, .int .i64 G])
  have HR := Lib.hid (hR.keep hx0)
  have HT := Lib.hid (hT.keep hx0)
  have HB0 := Lib.hid hB0
  have b0 := HP.out.cell 0
  clear hx0 hR hT hB0
  go_enter Tryd.func23, Tryd.ntmps23
  go_upto_region 1 with fail
  rw [HB0.out]
  generalize w0.alloc (.cells _ 32) = wa at *
  obtain ⟨B1, hB1⟩ : ∃ B1, wa.heap.size = B1 := ⟨_, rfl⟩
  have HB1 := Lib.hid hB1
  clear hB1
  go_wp2
  go_loopg [3, 9] N (fun g ov iv wr => ∃ j : Nat, j ≤ N ∧ g = N - j ∧ iv = .int .i64 (j : Nat) ∧ wr.ownsRow B1 9 1 ov j (strsV (O.take j)) ∧ Ext wa wr)
  case atStart => exact ⟨0, by omega, rfl, rfl, World.ownsRow_nil _ _ _ _, Ext.refl _⟩
  case round =>
    obtain ⟨jq, hj4, rfl, rfl, hown, hx⟩ := hrel
    by_cases hlt : jq < N
    · obtain ⟨xi, hxi⟩ : ∃ xi, c[jq]? = some xi := ⟨_, List.getElem?_eq_getElem (show jq < c.length from hN ▸ hlt)⟩
      obtain ⟨D, lq, hout, hline, hlen, hdl, hit⟩ := hL.each jq xi hxi
      obtain ⟨oq, hoq⟩ : ∃ oq, D ++ [32] ++ lq = oq := ⟨_, rfl⟩
      rw [hoq] at hout
      obtain ⟨bA, oA, rfl, hcell⟩ := code_cellsN (c := c) (by rw [hN]; exact HR.out.keep hx) hxi
      have c0 : wr.cell? ⟨bA, oA + jq * 8, none⟩ = some (.int .i64 xi.op) := hcell 0 _ rfl
      have c1 : wr.cell? ⟨bA, oA + jq * 8 + 1, none⟩ = some (.int .i64 xi.x) := hcell 1 _ rfl
      have c2 : wr.cell? ⟨bA, oA + jq * 8 + 2, none⟩ = some (.int .i64 xi.y) := hcell 2 _ rfl
      have c3 : wr.cell? ⟨bA, oA + jq * 8 + 3, none⟩ = some (.int .i64 xi.n) := hcell 3 _ rfl
      have c4 : wr.cell? ⟨bA, oA + jq * 8 + 4, none⟩ = some (.int .u64 (wd xi.set 0 : Nat)) := hcell 4 _ rfl
      have c5 : wr.cell? ⟨bA, oA + jq * 8 + 5, none⟩ = some (.int .u64 (wd xi.set 1 : Nat)) := hcell 5 _ rfl
      have c6 : wr.cell? ⟨bA, oA + jq * 8 + 6, none⟩ = some (.int .u64 (wd xi.set 2 : Nat)) := hcell 6 _ rfl
      have c7 : wr.cell? ⟨bA, oA + jq * 8 + 7, none⟩ = some (.int .u64 (wd xi.set 3 : Nat)) := hcell 7 _ rfl
      have hlt' : (jq : Int) < (N : Int) := by omega
      have hw2 : IntKind.i64.wrap ((jq : Int) + 1) = (jq : Int) + 1 := wrap_id (by omega) (by omega)
      have HW2 := Lib.hid hw2
      have HLN := Lib.hid hline
      have HOQ := Lib.hid hoq
      have HTK := Lib.hid (show strsV (O.take (jq + 1)) = strsV (O.take jq) ++ [strV oq] by rw [List.take_add_one, hout]; simp [strsV])
      have HIT := Lib.hid hit
      have HDL := Lib.hid (And.intro hdl hlen)
      have HLT := Lib.hid (And.intro hlt hN5)
      have HOWN := Lib.hid hown
      have HXR := Lib.hid hx
      obtain ⟨A', c', rfl, _, _, _⟩ := own_rd hown
      clear hline hlen hout hit hdl hoq hcell hxi hlt hown hx hj4 hw2
      go_upto_region 5 with fail
      have hal := Ext.new1 wr (.cells (insV xi).toArray 64)
      obtain ⟨gx, hgx⟩ : ∃ gx, wr.heap.size = gx := ⟨_, rfl⟩
      have HXI := Lib.hid (Blk.newA (w := wr) hgx 64 (insV xi))
      have HOW := Lib.hid (own_ext HOWN.out hal)
      have HXB := Lib.hid (Ext.trans HXR.out hal)
      have HGX := Lib.hid (show ∀ y ∈ (Value.slice A' jq c').ownBlock.toList, y < gx from fun y hy => by have := (HOWN.out.lt y (by simpa using hy)).2; omega)
      unfold insV at hal HXI HOW HXB
      rw [hgx]
      clear hal hgx c0 c1 c2 c3 c4 c5 c6 c7
      generalize wr.alloc (.cells #[.int .i64 xi.op, .int .i64 xi.x, .int .i64 xi.y, .int .i64 xi.n, .int .u64 (wd xi.set 0 : Nat), .int .u64 (wd xi.set 1 : Nat), .int .u64 (wd xi.set 2 : Nat), .int .u64 (wd xi.set 3 : Nat)] 64) = wb at *
      have hgs : gx < wb.heap.size := Blk.lt HXI.out
      have HTB := Lib.hid (HT.out.keep HXB.out)
      have HGT := Lib.hid (show 17 ∉ (Value.slice A' jq c').ownBlock.toList from fun hm => by have := (HOWN.out.lt _ (by simpa using hm)).1; have := HG.out; have := HB1.out; have := HX.out.size; omega)
      have HBW := Lib.hid (show B1 ≤ wb.heap.size from by have := HB1.out; have := HXB.out.size; omega)
      refine wp_region_dagQ (X := fun j => if j = 8 then (Value.slice A' jq c').ownBlock.toList else []) (XX := ((Value.slice A' jq c').ownBlock.toList)) (late := fun j => if j = 8 then [9] else []) (Pre := fun i w => (i = 8 → w.ownsRow B1 9 1 (.slice A' jq c') jq (strsV (O.take jq))) ∧ True) (w0 := wb) (Φ := fun i v w => match i with | 0 => (v = .slice A' jq c') | 1 => (v = .int .i64 (jq : Nat)) | 2 => (v = .string ⟨D.toArray⟩) | 3 => (v = .string ⟨(D ++ [32]).toArray⟩) | 4 => (v = .agg #[.int .i64 xi.op, .int .i64 xi.x, .int .i64 xi.y, .int .i64 xi.n, .int .u64 (wd xi.set 0 : Nat), .int .u64 (wd xi.set 1 : Nat), .int .u64 (wd xi.set 2 : Nat), .int .u64 (wd xi.set 3 : Nat)]) | 5 => (v = .string ⟨lq.toArray⟩) | 6 => (v = .string ⟨oq.toArray⟩) | 7 => (OneS wb.heap.size oq v w) | 8 => (OutV B1 O jq v w) | 9 => (OutV B1 O jq v w) | _ => True) (show Tryd.prog.follows .mixedOrders = true from Checked.mixed Tryd.checked) 25 rfl (by decide +kernel) ?_ ?_ ?_ ?_ ?_ ⟨?_, ?_, ?_, ?_, ?_, ?_, ?_, ?_, ?_, ?_, trivial⟩ ?_
      · intro j x hx
        by_cases hj8 : j = 8
        · subst hj8; have hx' : x ∈ (Value.slice A' jq c').ownBlock.toList := hx; first | exact hx' | (rw [List.mem_append]; first | exact .inl hx' | exact .inr hx')
        simp [hj8] at hx
      · intro j
        by_cases hj8 : j = 8
        · subst hj8; decide +kernel
        simp [hj8, lateOk]
      · intro i
        exact ⟨fun _ => own_ext HOW.out ((Below.refl _ _).drew), trivial⟩
      · intro i j w w' hij hnl h hc
        refine ⟨?_, trivial⟩
        · intro hi
          subst hi
          have hp := h.1 rfl
          have hc' : Chg [] w w' := hc.mono (fun x hx => by
            by_cases hj8 : j = 8
            · exact absurd hj8 (by omega)
            simp [hj8] at hx)
          exact own_chg hp hc' (by simp)
      · intro i j v w w' hij hla h hc
        by_cases hj8 : j = 8
        · subst hj8
          have hc' : Chg (Value.slice A' jq c').ownBlock.toList w w' := hc
          match i, hij, hla, h with
          | 0, _, _, h => exact h
          | 1, _, _, h => exact h
          | 2, _, _, h => exact h
          | 3, _, _, h => exact h
          | 4, _, _, h => exact h
          | 5, _, _, h => exact h
          | 6, _, _, h => exact h
          | 7, _, _, h => exact (by obtain ⟨vb, g1, g2, g3⟩ := h; exact ⟨vb, g1, g2.chg hc' (fun hm => by have := HGX.out vb hm; omega), g3⟩)
          | 8, hij, _, _ => exact absurd rfl hij
          | 9, _, hla, _ => exact absurd (by decide) hla
          | _ + 10, _, _, _ => trivial
        have hc0 : Chg [] w w' := by simpa [hj8] using hc
        have hE : Ext w w' := hc0.ext (by simp)
        match i, h with
        | 0, h => exact h
        | 1, h => exact h
        | 2, h => exact h
        | 3, h => exact h
        | 4, h => exact h
        | 5, h => exact h
        | 6, h => exact h
        | 7, h => exact (by obtain ⟨vb, g1, g2, g3⟩ := h; exact ⟨vb, g1, g2.keep hE, g3⟩)
        | 8, h => exact (by obtain ⟨A9, c9, g1, g2⟩ := h; exact ⟨A9, c9, g1, own_ext g2 hE⟩)
        | 9, h => exact (by obtain ⟨A9, c9, g1, g2⟩ := h; exact ⟨A9, c9, g1, own_ext g2 hE⟩)
        | _ + 10, _ => trivial
      ·
        intro ac wx hE hP hsz hdf h
        have e3 : ac.tmps[3]? = some (.slice A' jq c') := by obtain ⟨v, h1, h2⟩ := h 3 (by decide +kernel); exact h1.trans h2.symm
        clear h hsz hdf
        go_wp2
        exact ⟨_, rfl, rfl, Chg.refl _ _⟩
      ·
        intro ac wx hE hP hsz hdf h
        have e4 : ac.tmps[4]? = some (.int .i64 (jq : Nat)) := by obtain ⟨v, h1, h2⟩ := h 4 (by decide +kernel); exact h1.trans h2.symm
        clear h hsz hdf
        go_wp2
        exact ⟨_, rfl, rfl, Chg.refl _ _⟩
      ·
        intro ac wx hE hP hsz hdf h
        have e15 : ac.tmps[15]? = some (.int .i64 (jq : Nat)) := by obtain ⟨v, h1, h2⟩ := h 15 (by decide +kernel); rw [h1]; exact congrArg some h2
        clear h hsz hdf
        go_wp2_with ((go_at_call 53; refine (HIT.out wx).mono ?_; rintro e w2 ⟨rfl, hx2⟩))
        exact ⟨_, rfl, rfl, .of_ext hx2⟩
      ·
        intro ac wx hE hP hsz hdf h
        have e16 : ac.tmps[16]? = some (.string ⟨D.toArray⟩) := by obtain ⟨v, h1, h2⟩ := h 16 (by decide +kernel); rw [h1]; exact congrArg some h2
        clear h hsz hdf
        have hm : ¬ 9223372036854775807 < D.length + 1 := by have := HDL.out.1; omega
        go_wp2
        exact ⟨_, rfl, rfl, Chg.refl _ _⟩
      ·
        intro ac wx hE hP hsz hdf h
        have e5 : ac.tmps[5]? = some (.pointer (some ⟨gx, 0, none⟩)) := by obtain ⟨v, h1, h2⟩ := h 5 (by decide +kernel); exact h1.trans h2.symm
        clear h hsz hdf
        have hb := HXI.out.chg hE (fun hm => by have := HGX.out gx hm; omega); have y0 := hb.cell 0; have y1 := hb.cell 1; have y2 := hb.cell 2; have y3 := hb.cell 3; have y4 := hb.cell 4; have y5 := hb.cell 5; have y6 := hb.cell 6; have y7 := hb.cell 7
        go_wp2
        exact ⟨_, rfl, rfl, Chg.refl _ _⟩
      ·
        intro ac wx hE hP hsz hdf h
        have e18 : ac.tmps[18]? = some (.agg #[.int .i64 xi.op, .int .i64 xi.x, .int .i64 xi.y, .int .i64 xi.n, .int .u64 (wd xi.set 0 : Nat), .int .u64 (wd xi.set 1 : Nat), .int .u64 (wd xi.set 2 : Nat), .int .u64 (wd xi.set 3 : Nat)]) := by obtain ⟨v, h1, h2⟩ := h 18 (by decide +kernel); rw [h1]; exact congrArg some h2
        clear h hsz hdf
        skip
        go_wp2_with ((go_at_call 54; refine (HLN.out wx (tab_chg HTB.out hE HGT.out)).mono ?_; rintro e w2 ⟨rfl, hx2⟩))
        exact ⟨_, rfl, rfl, .of_ext hx2⟩
      ·
        intro ac wx hE hP hsz hdf h
        have e17 : ac.tmps[17]? = some (.string ⟨(D ++ [32]).toArray⟩) := by obtain ⟨v, h1, h2⟩ := h 17 (by decide +kernel); rw [h1]; exact congrArg some h2
        have e19 : ac.tmps[19]? = some (.string ⟨lq.toArray⟩) := by obtain ⟨v, h1, h2⟩ := h 19 (by decide +kernel); rw [h1]; exact congrArg some h2
        clear h hsz hdf
        have hm : ¬ 9223372036854775807 < D.length + 1 + lq.length := by have := HDL.out.1; have := HDL.out.2; omega
        go_wp2
        exact ⟨_, rfl, by rw [← HOQ.out]; simp, Chg.refl _ _⟩
      ·
        intro ac wx hE hP hsz hdf h
        have e20 : ac.tmps[20]? = some (.string ⟨oq.toArray⟩) := by obtain ⟨v, h1, h2⟩ := h 20 (by decide +kernel); rw [h1]; exact congrArg some h2
        clear h hsz hdf
        have hsz8 := hE.size
        go_wp2
        exact ⟨_, rfl, ⟨_, rfl, Blk.newL wx 9 [strV oq], hsz8⟩, .of_ext (Ext.new1 _ _)⟩
      ·
        intro ac wx hE hP hsz hdf h
        have e14 : ac.tmps[14]? = some (.slice A' jq c') := by obtain ⟨v, h1, h2⟩ := h 14 (by decide +kernel); rw [h1]; exact congrArg some h2
        obtain ⟨v21, e21, s21⟩ : ∃ v, ac.tmps[21]? = some v ∧ (OneS wb.heap.size oq v wx) := h 21 (by decide +kernel)
        clear h hsz hdf
        obtain ⟨vb, rfl, hvb8, hvb9⟩ := s21; have ho8 := hP.1 rfl; have hsz8 := hE.size
        go_wp2_with ((refine wpList_app2 Tryd.elemS rfl (.tmp 14) (.tmp 21) rfl (v := .slice A' jq c') (n := jq) (xs := strsV (O.take jq)) (by simp [Act.eval, e14]) ho8 (by have := HBW.out; omega) (A := some ⟨vb, 0, none⟩) (m := 1) (c := 1) (news := [strV oq]) (by simp [Act.eval, e21]) (by have := Blk.rd (n := 1) (size := 1) hvb8 0 (by simp); simpa using this) (one_one rfl) (by have := HLT.out; omega) (by have := HLT.out; unfold maxLen; omega) ?_; intro v9 w9 hown9 hgr9 _ _))
        obtain ⟨A9, c9, e9, _, _, _⟩ := own_rd hown9; exact ⟨_, rfl, ⟨A9, c9, e9, by rw [← HTK.out] at hown9; exact hown9⟩, ⟨hgr9.by_.os, hgr9.by_.tape, hgr9.by_.output, hgr9.by_.size, fun k hk hkn => hgr9.by_.block k hk (fun e => hkn (by simp [← e]))⟩⟩
      ·
        intro ac wx hE hP hsz hdf h
        obtain ⟨v22, e22, s22⟩ : ∃ v, ac.tmps[22]? = some v ∧ (OutV B1 O jq v wx) := h 22 (by decide +kernel)
        clear h hsz hdf
        obtain ⟨A9, c9, rfl, ho9⟩ := s22
        go_wp2
        exact ⟨_, rfl, ⟨A9, c9, rfl, ho9⟩, Chg.refl _ _⟩
      · intro ac w9 hE hsz hdf h hrest
        obtain ⟨v0, s0, g0⟩ := h 0 _ rfl
        have e0 := g0 14 rfl
        obtain rfl : v0 = .slice A' jq c' := s0
        obtain ⟨v1, s1, g1⟩ := h 1 _ rfl
        have e1 := g1 15 rfl
        obtain rfl : v1 = .int .i64 (jq : Nat) := s1
        obtain ⟨v2, s2, g2⟩ := h 2 _ rfl
        have e2 := g2 16 rfl
        obtain rfl : v2 = .string ⟨D.toArray⟩ := s2
        obtain ⟨v3, s3, g3⟩ := h 3 _ rfl
        have e3 := g3 17 rfl
        obtain rfl : v3 = .string ⟨(D ++ [32]).toArray⟩ := s3
        obtain ⟨v4, s4, g4⟩ := h 4 _ rfl
        have e4 := g4 18 rfl
        obtain rfl : v4 = .agg #[.int .i64 xi.op, .int .i64 xi.x, .int .i64 xi.y, .int .i64 xi.n, .int .u64 (wd xi.set 0 : Nat), .int .u64 (wd xi.set 1 : Nat), .int .u64 (wd xi.set 2 : Nat), .int .u64 (wd xi.set 3 : Nat)] := s4
        obtain ⟨v5, s5, g5⟩ := h 5 _ rfl
        have e5 := g5 19 rfl
        obtain rfl : v5 = .string ⟨lq.toArray⟩ := s5
        obtain ⟨v6, s6, g6⟩ := h 6 _ rfl
        have e6 := g6 20 rfl
        obtain rfl : v6 = .string ⟨oq.toArray⟩ := s6
        obtain ⟨v7, s7, g7⟩ := h 7 _ rfl
        have e7 := g7 21 rfl
        replace s7 : OneS wb.heap.size oq v7 w9 := s7
        obtain ⟨v8, s8, g8⟩ := h 8 _ rfl
        have e8 := g8 22 rfl
        replace s8 : OutV B1 O jq v8 w9 := s8
        obtain ⟨v9, s9, g9⟩ := h 9 _ rfl
        have e9 := g9 3 rfl
        replace s9 : OutV B1 O jq v9 w9 := s9
        have ha := act_of [(14, .slice A' jq c'), (15, .int .i64 (jq : Nat)), (16, .string ⟨D.toArray⟩), (17, .string ⟨(D ++ [32]).toArray⟩), (18, .agg #[.int .i64 xi.op, .int .i64 xi.x, .int .i64 xi.y, .int .i64 xi.n, .int .u64 (wd xi.set 0 : Nat), .int .u64 (wd xi.set 1 : Nat), .int .u64 (wd xi.set 2 : Nat), .int .u64 (wd xi.set 3 : Nat)]), (19, .string ⟨lq.toArray⟩), (20, .string ⟨oq.toArray⟩), (21, v7), (22, v8), (3, v9)] rfl hsz hdf (by intro p hp; simp only [List.mem_cons, List.not_mem_nil, or_false] at hp; rcases hp with rfl | rfl | rfl | rfl | rfl | rfl | rfl | rfl | rfl | rfl <;> first | exact e0 | exact e1 | exact e2 | exact e3 | exact e4 | exact e5 | exact e6 | exact e7 | exact e8 | exact e9) hrest
        clear h hrest hsz hdf e0 e1 e2 e3 e4 e5 e6 e7 e8 e9 g0 g1 g2 g3 g4 g5 g6 g7 g8 g9
        subst ha
        simp only [List.foldl_cons, List.foldl_nil, Act.put, List.setIfInBounds_toArray, List.set_cons_succ, List.set_cons_zero]
        obtain ⟨A9, c9, rfl, ho9⟩ := s9
        have HX9 := Lib.hid (show Ext wa w9 from ((Chg.of_ext HXB.out).trans hE).ext (fun y hy => by have := (HOWN.out.lt y (by simpa using hy)).1; have := HB1.out; omega))
        have HO9 := Lib.hid ho9
        have hw2 := HW2.out
        clear ho9 hE s7 s8
        go_wp2
        go_roundg (N - (jq + 1))
        case measure => omega
        case rel => exact ⟨jq + 1, by have := HLT.out; omega, rfl, by go_num, HO9.out, HX9.out⟩
    · obtain rfl : jq = N := by omega
      have hlt' : ¬ (jq : Int) < (jq : Int) := by omega
      have HOWN := Lib.hid hown
      have HXR := Lib.hid hx
      obtain ⟨A', c', rfl, _, _, hrd⟩ := own_rd hown
      have HRD := Lib.hid hrd
      clear hown hx hrd
      go_wp2
      go_ret
      refine ⟨A', c', rfl, ?_, Ext.trans HX.out HXR.out⟩
      have h2 := HRD.out
      rw [List.take_of_length_le (by rw [hL.same, hN]; exact Nat.le_refl _)] at h2
      exact h2

theorem nfEx_linesOK : LinesOK nfExC nfExO where
  many := by decide
  same := rfl
  each := fun j xi hxi => by
    obtain ⟨lq, hlq⟩ : ∃ lq, nfExT[j]? = some lq := ⟨_, List.getElem?_eq_getElem (show j < nfExT.length from (List.getElem?_eq_some_iff.1 hxi).1)⟩
    obtain ⟨h1, h2, h3⟩ := nfEx_line j xi lq hxi hlq
    refine ⟨digit j, lq, nfEx_out j lq hlq, h1, by omega, by simp [digit], fun w => (itoa9 j h3 w).mono ?_⟩
    rintro e w' ⟨rfl, rfl⟩
    exact ⟨rfl, Ext.refl _⟩
end Go.Proofs.YtdhmfgaiomfodaaDoor
namespace Go.Proofs.YtdhmfgaiomfodaaDoor
open Go Go.RowKit
attribute [local irreducible] wd

def insEqB (x y : Ins) : Bool := x.op == y.op && (x.x == y.x && (x.y == y.y && (x.n == y.n && sameP x.set y.set)))
set_option maxRecDepth 20000 in
theorem eq_sp9 (p q : Nat → Bool) (w : World) : (Op.equalIn 9999 24 (.agg #[.int .u64 (wd p 0 : Nat), .int .u64 (wd p 1 : Nat), .int .u64 (wd p 2 : Nat), .int .u64 (wd p 3 : Nat)]) (.agg #[.int .u64 (wd q 0 : Nat), .int .u64 (wd q 1 : Nat), .int .u64 (wd q 2 : Nat), .int .u64 (wd q 3 : Nat)])).run Tryd.prog w = .ok (sameP p q) w := by
  have h := run_equalIn_arr (P := Tryd.prog) 9998 24 22 4 #[.int .u64 (wd p 0 : Nat), .int .u64 (wd p 1 : Nat), .int .u64 (wd p 2 : Nat), .int .u64 (wd p 3 : Nat)] #[.int .u64 (wd q 0 : Nat), .int .u64 (wd q 1 : Nat), .int .u64 (wd q 2 : Nat), .int .u64 (wd q 3 : Nat)]
    (fun i => .int .u64 (wd p i : Nat)) (fun i => .int .u64 (wd q i : Nat)) (fun i => ((wd p i : Nat) : Int) == ((wd q i : Nat) : Int)) Tryd.underlying24 (by kernel_rfl) (fun w => by kernel_rfl)
    (fun i hi => by
      have h4 : i = 0 ∨ i = 1 ∨ i = 2 ∨ i = 3 := by omega
      rcases h4 with rfl | rfl | rfl | rfl <;> rfl)
    (fun i hi => by
      have h4 : i = 0 ∨ i = 1 ∨ i = 2 ∨ i = 3 := by omega
      rcases h4 with rfl | rfl | rfl | rfl <;> rfl)
    (fun i _ w => run_equalIn_int w 9997 _ _ _ _ _ Tryd.underlying22) w
  rw [words_same] at h
  exact h
set_option maxRecDepth 20000 in
theorem insEq (x y : Ins) (w : World) : (Op.equalIn 10000 64 (.agg #[.int .i64 x.op, .int .i64 x.x, .int .i64 x.y, .int .i64 x.n, .int .u64 (wd x.set 0 : Nat), .int .u64 (wd x.set 1 : Nat), .int .u64 (wd x.set 2 : Nat), .int .u64 (wd x.set 3 : Nat)]) (.agg #[.int .i64 y.op, .int .i64 y.x, .int .i64 y.y, .int .i64 y.n, .int .u64 (wd y.set 0 : Nat), .int .u64 (wd y.set 1 : Nat), .int .u64 (wd y.set 2 : Nat), .int .u64 (wd y.set 3 : Nat)])).run Tryd.prog w = .ok (insEqB x y) w := by
  have hq := fun w => eq_sp9 x.set y.set w
  unfold insEqB
  cases h1 : (x.op == y.op)
  · go_simp
  cases h2 : (x.x == y.x)
  · go_simp
  cases h3 : (x.y == y.y)
  · go_simp
  cases h4 : (x.n == y.n)
  · go_simp
  · go_simp
    cases sameP x.set y.set <;> rfl

def eqCode : List Ins → List Ins → Bool
  | [], [] => true
  | x :: c, y :: d => insEqB x y && eqCode c d
  | _, _ => false
theorem eqCode_len : ∀ (c d : List Ins), c.length ≠ d.length → eqCode c d = false
  | [], [], h => absurd rfl h
  | [], _ :: _, _ => rfl
  | _ :: _, [], _ => rfl
  | x :: c, y :: d, h => by
    rw [eqCode, eqCode_len c d (fun e => h (by simp [e]))]
    simp
theorem eqCode_drop {c d : List Ins} {k : Nat} {x y : Ins} (hx : c[k]? = some x) (hy : d[k]? = some y) : eqCode (c.drop k) (d.drop k) = (insEqB x y && eqCode (c.drop (k + 1)) (d.drop (k + 1))) := by
  obtain ⟨hc, rfl⟩ := List.getElem?_eq_some_iff.1 hx
  obtain ⟨hd, rfl⟩ := List.getElem?_eq_some_iff.1 hy
  rw [List.drop_eq_getElem_cons hc, List.drop_eq_getElem_cons hd, eqCode]

set_option maxHeartbeats 4000000 in
set_option maxRecDepth 20000 in
theorem nfEqual (c d : List Ins) (A B : Option Addr) (n m ca cb : Nat) (hn : c.length = n) (hm : d.length = m) (hN : n ≤ 1000000) (w : World) (hx : Rd w 8 A n (codeV c)) (hy : Rd w 8 B m (codeV d)) :
    Calls Tryd.prog 49 #[.slice A n ca, .slice B m cb] w fun e w' => e = .returned (.bool (eqCode c d)) ∧ ∃ k, w' = w.drewN k := by
  obtain ⟨R, hR⟩ : ∃ R, eqCode c d = R := ⟨_, rfl⟩
  rw [hR]
  have HL := Lib.hid (And.intro hn hm)
  have HX := Lib.hid hx
  have HY := Lib.hid hy
  have HR := Lib.hid hR
  by_cases hnm : n = m
  · subst hnm
    clear hx hy hn hm hR
    go_enter Tryd.func49, Tryd.ntmps49
    go_wp2
    go_loopg [13] n (fun g i wr => ∃ k : Nat, k ≤ n ∧ g = n - k ∧ i = .int .i64 (k : Nat) ∧ R = eqCode (c.drop k) (d.drop k) ∧ ∃ m, wr = w.drewN m)
    case atStart => exact ⟨0, Nat.zero_le _, rfl, rfl, HR.out.symm, 0, rfl⟩
    case round =>
      obtain ⟨k, hk, rfl, rfl, hrr, mm, hwr⟩ := hrel
      have HRR := Lib.hid hrr
      clear hrr
      by_cases hlt : k < n
      · obtain ⟨x, hx⟩ : ∃ x, c[k]? = some x := ⟨_, List.getElem?_eq_getElem (by rw [HL.out.1]; exact hlt)⟩
        obtain ⟨y, hy⟩ : ∃ y, d[k]? = some y := ⟨_, List.getElem?_eq_getElem (by rw [HL.out.2]; exact hlt)⟩
        have hxw : Ext w wr := by rw [hwr]; exact Ext.drawn _ _
        have HW := Lib.hid hwr
        clear hwr
        obtain ⟨bA, oA, rfl, hcell⟩ := code_cellsN (c := c) (by rw [HL.out.1]; exact HX.out.keep hxw) hx
        obtain ⟨bB, oB, rfl, hcell2⟩ := code_cellsN (c := d) (by rw [HL.out.2]; exact HY.out.keep hxw) hy
        have a0 : wr.cell? ⟨bA, oA + k * 8, none⟩ = some (.int .i64 x.op) := hcell 0 _ rfl
        have a1 : wr.cell? ⟨bA, oA + k * 8 + 1, none⟩ = some (.int .i64 x.x) := hcell 1 _ rfl
        have a2 : wr.cell? ⟨bA, oA + k * 8 + 2, none⟩ = some (.int .i64 x.y) := hcell 2 _ rfl
        have a3 : wr.cell? ⟨bA, oA + k * 8 + 3, none⟩ = some (.int .i64 x.n) := hcell 3 _ rfl
        have a4 : wr.cell? ⟨bA, oA + k * 8 + 4, none⟩ = some (.int .u64 (wd x.set 0 : Nat)) := hcell 4 _ rfl
        have a5 : wr.cell? ⟨bA, oA + k * 8 + 5, none⟩ = some (.int .u64 (wd x.set 1 : Nat)) := hcell 5 _ rfl
        have a6 : wr.cell? ⟨bA, oA + k * 8 + 6, none⟩ = some (.int .u64 (wd x.set 2 : Nat)) := hcell 6 _ rfl
        have a7 : wr.cell? ⟨bA, oA + k * 8 + 7, none⟩ = some (.int .u64 (wd x.set 3 : Nat)) := hcell 7 _ rfl
        have b0 : wr.cell? ⟨bB, oB + k * 8, none⟩ = some (.int .i64 y.op) := hcell2 0 _ rfl
        have b1 : wr.cell? ⟨bB, oB + k * 8 + 1, none⟩ = some (.int .i64 y.x) := hcell2 1 _ rfl
        have b2 : wr.cell? ⟨bB, oB + k * 8 + 2, none⟩ = some (.int .i64 y.y) := hcell2 2 _ rfl
        have b3 : wr.cell? ⟨bB, oB + k * 8 + 3, none⟩ = some (.int .i64 y.n) := hcell2 3 _ rfl
        have b4 : wr.cell? ⟨bB, oB + k * 8 + 4, none⟩ = some (.int .u64 (wd y.set 0 : Nat)) := hcell2 4 _ rfl
        have b5 : wr.cell? ⟨bB, oB + k * 8 + 5, none⟩ = some (.int .u64 (wd y.set 1 : Nat)) := hcell2 5 _ rfl
        have b6 : wr.cell? ⟨bB, oB + k * 8 + 6, none⟩ = some (.int .u64 (wd y.set 2 : Nat)) := hcell2 6 _ rfl
        have b7 : wr.cell? ⟨bB, oB + k * 8 + 7, none⟩ = some (.int .u64 (wd y.set 3 : Nat)) := hcell2 7 _ rfl
        have hlt' : (k : Int) < (n : Int) := by omega
        have hw2 : IntKind.i64.wrap ((k : Int) + 1) = (k : Int) + 1 := wrap_id (by omega) (by omega)
        have hq := fun w => insEq x y w
        obtain ⟨z, hz⟩ : ∃ z, insEqB x y = z := ⟨_, rfl⟩
        rw [hz] at hq
        have HZ := Lib.hid (eqCode_drop hx hy)
        rw [hz] at HZ
        clear hcell hcell2 hxw hx hy hz
        cases z
        · go_upto_region 6 with fail
          go_quiet (fail)
          go_wp2
          go_ret
          refine ⟨by rw [HRR.out, HZ.out]; rfl, mm + nq, ?_⟩
          rw [HW.out, World.drewN_drewN]
        · go_upto_region 6 with fail
          go_quiet (fail)
          go_wp2
          go_roundg (n - (k + 1))
          case measure => omega
          case rel => exact ⟨k + 1, by omega, rfl, by go_num, by rw [HRR.out, HZ.out]; rfl, mm + nq, by rw [HW.out, World.drewN_drewN]⟩
      · obtain rfl : k = n := by omega
        have hlt' : ¬ (k : Int) < (k : Int) := by omega
        have HW := Lib.hid hwr
        clear hwr
        go_wp2
        go_ret
        refine ⟨?_, mm, HW.out⟩
        rw [HRR.out, List.drop_of_length_le (by rw [HL.out.1]; exact Nat.le_refl _), List.drop_of_length_le (by rw [HL.out.2]; exact Nat.le_refl _)]
        rfl
  · have hnm' : ¬ (n : Int) = (m : Int) := by omega
    have hRf : R = false := by rw [← hR]; exact eqCode_len _ _ (by rw [hn, hm]; exact hnm)
    subst hRf
    clear hx hy hn hm hR
    go_enter Tryd.func49, Tryd.ntmps49
    go_wp2
    go_ret
    exact ⟨rfl, 0, rfl⟩

def progEqB (c d : List Ins) (G H : Int) : Bool := G == H && eqCode c d
set_option maxHeartbeats 4000000 in
set_option maxRecDepth 20000 in
theorem nfSame (c d : List Ins) (A B : Option Addr) (n m ca cb : Nat) (G H : Int) (hn : c.length = n) (hm : d.length = m) (hN : n ≤ 1000000) (w : World) (hx : Rd w 8 A n (codeV c)) (hy : Rd w 8 B m (codeV d)) :
    Calls Tryd.prog 18 #[.agg #[.slice A n ca, .int .i64 G], .agg #[.slice B m cb, .int .i64 H]] w fun e w' => e = .returned (.bool (progEqB c d G H)) ∧ Ext w w' := by
  obtain ⟨V, hV⟩ : ∃ V, progEqB c d G H = V := ⟨_, rfl⟩
  rw [hV]
  unfold progEqB at hV
  obtain ⟨g0, hg0⟩ : ∃ g0, w.heap.size = g0 := ⟨_, rfl⟩
  have hb0 := Blk.newA (w := w) hg0 32 [.slice A n ca, .int .i64 G]
  have hx0 := Ext.new1 w (.cells #[.slice A n ca, .int .i64 G] 32)
  obtain ⟨g1, hg1⟩ : ∃ g1, (w.alloc (.cells #[.slice A n ca, .int .i64 G] 32)).heap.size = g1 := ⟨_, rfl⟩
  have hb1 := Blk.newA (w := w.alloc (.cells #[.slice A n ca, .int .i64 G] 32)) hg1 32 [.slice B m cb, .int .i64 H]
  have hx1 := Ext.new1 (w.alloc (.cells #[.slice A n ca, .int .i64 G] 32)) (.cells #[.slice B m cb, .int .i64 H] 32)
  have HB0 := Lib.hid (hb0.keep hx1)
  have HB1 := Lib.hid hb1
  have HX := Lib.hid (Ext.trans hx0 hx1)
  have HA := Lib.hid (hx.keep HX.out)
  have HB := Lib.hid (hy.keep HX.out)
  have HN := Lib.hid (And.intro hn (And.intro hm hN))
  have HG0 := Lib.hid hg0
  have HG1 := Lib.hid (show w.heap.size + 1 = g1 by rw [← hg1]; simp)
  clear hb0 hx0 hb1 hx1 hx hy hn hm hN hg0 hg1
  go_enter Tryd.func18, Tryd.ntmps18
  go_upto_region 1 with fail
  rw [HG1.out, HG0.out]
  generalize (w.alloc (.cells #[.slice A n ca, .int .i64 G] 32)).alloc (.cells #[.slice B m cb, .int .i64 H] 32) = wq at *
  have a0 : wq.cell? ⟨g0, 0, none⟩ = some (.slice A n ca) := HB0.out.cell 0
  have a1 : wq.cell? ⟨g0, 1, none⟩ = some (.int .i64 G) := HB0.out.cell 1
  have b0 : wq.cell? ⟨g1, 0, none⟩ = some (.slice B m cb) := HB1.out.cell 0
  have b1 : wq.cell? ⟨g1, 1, none⟩ = some (.int .i64 H) := HB1.out.cell 1
  cases hGH : (G == H)
  · rw [hGH] at hV
    obtain rfl : V = false := hV.symm
    clear hV
    go_wp2
    go_ret
    exact ⟨rfl, HX.out⟩
  · obtain ⟨R, hR⟩ : ∃ R, eqCode c d = R := ⟨_, rfl⟩
    rw [hGH, hR] at hV
    obtain rfl : V = R := by rw [← hV]; rfl
    clear hV
    have HR := Lib.hid (nfEqual c d A B n m ca cb HN.out.1 HN.out.2.1 HN.out.2.2 wq HA.out HB.out)
    rw [hR] at HR
    clear hR
    go_wp2_with (go_at_call 49; refine HR.out.mono ?_; rintro e w2 ⟨rfl, mq, rfl⟩)
    go_ret
    exact ⟨rfl, Ext.trans HX.out (Ext.drawn _ _)⟩
end Go.Proofs.YtdhmfgaiomfodaaDoor
namespace Go.Proofs.YtdhmfgaiomfodaaDoor
open Go Go.RowKit
attribute [local irreducible] wd

def bareI (i : Ins) : Ins :=
  if i.op = 1 then ⟨1, 0, 0, 0, i.set⟩ else if i.op = 2 then ⟨2, i.x, 0, 0, fun _ => false⟩ else if i.op = 3 then ⟨3, i.x, i.y, 0, fun _ => false⟩ else if i.op = 4 then ⟨4, 0, 0, i.n, fun _ => false⟩ else ⟨i.op, 0, 0, 0, fun _ => false⟩
def sk (c : Bool) (v : Value) : Value := if c then undef else v
set_option maxHeartbeats 4000000 in
set_option maxRecDepth 20000 in
theorem nfBareAny (i : Ins) (h1 : 1 ≤ i.op) (h5 : i.op ≤ 5) (w : World) :
    Calls Tryd.prog 73 #[.agg (insV i).toArray] w fun e w' => e = .returned (.agg (insV (bareI i)).toArray) ∧ Ext w w' := by
  obtain ⟨op, x, y, n, p⟩ := i
  have hw : ∀ j, wd (fun _ => false) j = 0 := fun j => wd_none j
  have hxa := Ext.new1 w (.cells (insV ⟨op, x, y, n, p⟩).toArray 64)
  have hxp := Ext.new1 (w.alloc (.cells (insV ⟨op, x, y, n, p⟩).toArray 64)) (.cells #[.int .i64 0, .int .i64 0, .int .i64 0, .int .i64 0, .int .u64 0, .int .u64 0, .int .u64 0, .int .u64 0] 64)
  have HB := Lib.hid ((Blk.newA (w := w) rfl 64 (insV ⟨op, x, y, n, p⟩)).keep hxp)
  have HZ := Lib.hid (Blk.newA (w := w.alloc (.cells (insV ⟨op, x, y, n, p⟩).toArray 64)) (g := w.heap.size + 1) (by simp) 64 [.int .i64 0, .int .i64 0, .int .i64 0, .int .i64 0, .int .u64 0, .int .u64 0, .int .u64 0, .int .u64 0])
  have HX := Lib.hid (Ext.trans hxa hxp)
  have HW := Lib.hid hw
  have h6 : op = 1 ∨ op = 2 ∨ op = 3 ∨ op = 4 ∨ op = 5 := by dsimp only at h1 h5; omega
  clear hxa hxp hw h1 h5
  obtain ⟨bi, hbi⟩ : ∃ bi, bareI ⟨op, x, y, n, p⟩ = bi := ⟨_, rfl⟩
  rw [hbi]
  unfold insV at HB HZ HX
  unfold insV
  dsimp only at *
  rcases h6 with rfl | rfl | rfl | rfl | rfl
  · obtain rfl : bi = ⟨1, 0, 0, 0, p⟩ := by rw [← hbi]; rfl
    clear hbi
    go_enter Tryd.func73, Tryd.ntmps73
    obtain ⟨gi, hgi⟩ : ∃ gi, w.heap.size = gi := ⟨_, rfl⟩
    have HGI := Lib.hid hgi
    rw [hgi] at HB HZ
    clear hgi
    go_upto_region 1 with fail
    generalize (w.alloc (.cells _ 64)).alloc (.cells _ 64) = wa at *
    rw [HGI.out]
    have b0 := HB.out.cell 0; have b1 := HB.out.cell 1; have b2 := HB.out.cell 2; have b3 := HB.out.cell 3; have b4 := HB.out.cell 4; have b5 := HB.out.cell 5; have b6 := HB.out.cell 6; have b7 := HB.out.cell 7
    go_wp2_with (refine store_ins rfl (.tmp 2) (.tmp 9) rfl (g := gi + 1) [.int .i64 1, .int .i64 0, .int .i64 0, .int .i64 0, .int .u64 (wd p 0 : Nat), .int .u64 (wd p 1 : Nat), .int .u64 (wd p 2 : Nat), .int .u64 (wd p 3 : Nat)] rfl rfl HZ.out rfl rfl rfl ?_)
    refine bodyPost_ret (results_ins rfl rfl (Blk.row HZ.out _) rfl) rfl ⟨?_, HX.out.rowX _ _ (by have := HGI.out; omega)⟩
    rfl
  · obtain rfl : bi = ⟨2, x, 0, 0, fun _ => false⟩ := by rw [← hbi]; rfl
    clear hbi
    go_enter Tryd.func73, Tryd.ntmps73
    obtain ⟨gi, hgi⟩ : ∃ gi, w.heap.size = gi := ⟨_, rfl⟩
    have HGI := Lib.hid hgi
    rw [hgi] at HB HZ
    clear hgi
    go_upto_region 1 with fail
    generalize (w.alloc (.cells _ 64)).alloc (.cells _ 64) = wa at *
    rw [HGI.out]
    have b0 := HB.out.cell 0; have b1 := HB.out.cell 1; have b2 := HB.out.cell 2; have b3 := HB.out.cell 3; have b4 := HB.out.cell 4; have b5 := HB.out.cell 5; have b6 := HB.out.cell 6; have b7 := HB.out.cell 7
    go_wp2_with (refine store_ins rfl (.tmp 2) (.tmp 14) rfl (g := gi + 1) [.int .i64 2, .int .i64 x, .int .i64 0, .int .i64 0, .int .u64 0, .int .u64 0, .int .u64 0, .int .u64 0] rfl rfl HZ.out rfl rfl rfl ?_)
    refine bodyPost_ret (results_ins rfl rfl (Blk.row HZ.out _) rfl) rfl ⟨?_, HX.out.rowX _ _ (by have := HGI.out; omega)⟩
    simp only [HW.out, Int.natCast_zero]
  · obtain rfl : bi = ⟨3, x, y, 0, fun _ => false⟩ := by rw [← hbi]; rfl
    clear hbi
    go_enter Tryd.func73, Tryd.ntmps73
    obtain ⟨gi, hgi⟩ : ∃ gi, w.heap.size = gi := ⟨_, rfl⟩
    have HGI := Lib.hid hgi
    rw [hgi] at HB HZ
    clear hgi
    go_upto_region 1 with fail
    generalize (w.alloc (.cells _ 64)).alloc (.cells _ 64) = wa at *
    rw [HGI.out]
    have b0 := HB.out.cell 0; have b1 := HB.out.cell 1; have b2 := HB.out.cell 2; have b3 := HB.out.cell 3; have b4 := HB.out.cell 4; have b5 := HB.out.cell 5; have b6 := HB.out.cell 6; have b7 := HB.out.cell 7
    go_wp2_with (refine store_ins rfl (.tmp 2) (.tmp 21) rfl (g := gi + 1) [.int .i64 3, .int .i64 x, .int .i64 y, .int .i64 0, .int .u64 0, .int .u64 0, .int .u64 0, .int .u64 0] rfl rfl HZ.out rfl rfl rfl ?_)
    refine bodyPost_ret (results_ins rfl rfl (Blk.row HZ.out _) rfl) rfl ⟨?_, HX.out.rowX _ _ (by have := HGI.out; omega)⟩
    simp only [HW.out, Int.natCast_zero]
  · obtain rfl : bi = ⟨4, 0, 0, n, fun _ => false⟩ := by rw [← hbi]; rfl
    clear hbi
    go_enter Tryd.func73, Tryd.ntmps73
    obtain ⟨gi, hgi⟩ : ∃ gi, w.heap.size = gi := ⟨_, rfl⟩
    have HGI := Lib.hid hgi
    rw [hgi] at HB HZ
    clear hgi
    go_upto_region 1 with fail
    generalize (w.alloc (.cells _ 64)).alloc (.cells _ 64) = wa at *
    rw [HGI.out]
    have b0 := HB.out.cell 0; have b1 := HB.out.cell 1; have b2 := HB.out.cell 2; have b3 := HB.out.cell 3; have b4 := HB.out.cell 4; have b5 := HB.out.cell 5; have b6 := HB.out.cell 6; have b7 := HB.out.cell 7
    go_wp2_with (refine store_ins rfl (.tmp 2) (.tmp 26) rfl (g := gi + 1) [.int .i64 4, .int .i64 0, .int .i64 0, .int .i64 n, .int .u64 0, .int .u64 0, .int .u64 0, .int .u64 0] rfl rfl HZ.out rfl rfl rfl ?_)
    refine bodyPost_ret (results_ins rfl rfl (Blk.row HZ.out _) rfl) rfl ⟨?_, HX.out.rowX _ _ (by have := HGI.out; omega)⟩
    simp only [HW.out, Int.natCast_zero]
  · obtain rfl : bi = ⟨5, 0, 0, 0, fun _ => false⟩ := by rw [← hbi]; rfl
    clear hbi
    go_enter Tryd.func73, Tryd.ntmps73
    obtain ⟨gi, hgi⟩ : ∃ gi, w.heap.size = gi := ⟨_, rfl⟩
    have HGI := Lib.hid hgi
    rw [hgi] at HB HZ
    clear hgi
    go_upto_region 1 with fail
    generalize (w.alloc (.cells _ 64)).alloc (.cells _ 64) = wa at *
    rw [HGI.out]
    have b0 := HB.out.cell 0; have b1 := HB.out.cell 1; have b2 := HB.out.cell 2; have b3 := HB.out.cell 3; have b4 := HB.out.cell 4; have b5 := HB.out.cell 5; have b6 := HB.out.cell 6; have b7 := HB.out.cell 7
    go_wp2_with (refine store_ins rfl (.tmp 2) (.tmp 29) rfl (g := gi + 1) [.int .i64 5, .int .i64 0, .int .i64 0, .int .i64 0, .int .u64 0, .int .u64 0, .int .u64 0, .int .u64 0] rfl rfl HZ.out rfl rfl rfl ?_)
    refine bodyPost_ret (results_ins rfl rfl (Blk.row HZ.out _) rfl) rfl ⟨?_, HX.out.rowX _ _ (by have := HGI.out; omega)⟩
    simp only [HW.out, Int.natCast_zero]

def rightI (i : Ins) (many G : Nat) : Bool := !((((((decide (i.op < 1) || decide (5 < i.op)) || !insEqB i (bareI i)) || decide (i.x < 0)) || decide ((many : Int) ≤ i.x)) || decide (i.y < 0)) || decide ((many : Int) ≤ i.y)) && (!(i.op == 4) || (decide (2 ≤ i.n) && decide (i.n ≤ 2 * (G : Int) + 1)))
set_option maxHeartbeats 8000000 in
set_option maxRecDepth 20000 in
theorem nfInsRightAny (xi : Ins) (many G : Nat) (hm : many ≤ 1000) (hG : G ≤ 9) (w : World) :
    Calls Tryd.prog 48 #[.agg (insV xi).toArray, .int .i64 (many : Nat), .int .i64 (G : Nat)] w fun e w' => e = .returned (.bool (rightI xi many G)) ∧ Ext w w' := by
  have HX0 := Lib.hid (Ext.new1 w (.cells (insV xi).toArray 64))
  obtain ⟨gi, hgi⟩ : ∃ gi, w.heap.size = gi := ⟨_, rfl⟩
  have HB := Lib.hid (Blk.newA (w := w) hgi 64 (insV xi))
  have HGI := Lib.hid hgi
  have HM := Lib.hid hm
  have HG := Lib.hid hG
  obtain ⟨V, hV⟩ : ∃ V, rightI xi many G = V := ⟨_, rfl⟩
  have HV := Lib.hid hV
  rw [hV]
  obtain ⟨b0, hb0⟩ : ∃ b, decide (xi.op < 1) = b := ⟨_, rfl⟩
  obtain ⟨b1, hb1⟩ : ∃ b, decide (5 < xi.op) = b := ⟨_, rfl⟩
  obtain ⟨b2, hb2⟩ : ∃ b, (!insEqB xi (bareI xi)) = b := ⟨_, rfl⟩
  obtain ⟨b3, hb3⟩ : ∃ b, decide (xi.x < 0) = b := ⟨_, rfl⟩
  obtain ⟨b4, hb4⟩ : ∃ b, decide ((many : Int) ≤ xi.x) = b := ⟨_, rfl⟩
  obtain ⟨b5, hb5⟩ : ∃ b, decide (xi.y < 0) = b := ⟨_, rfl⟩
  obtain ⟨b6, hb6⟩ : ∃ b, decide ((many : Int) ≤ xi.y) = b := ⟨_, rfl⟩
  obtain ⟨c1, hc1⟩ : ∃ c, (b0 || b1) = c := ⟨_, rfl⟩
  obtain ⟨c2, hc2⟩ : ∃ c, (c1 || b2) = c := ⟨_, rfl⟩
  obtain ⟨c3, hc3⟩ : ∃ c, (c2 || b3) = c := ⟨_, rfl⟩
  obtain ⟨c4, hc4⟩ : ∃ c, (c3 || b4) = c := ⟨_, rfl⟩
  obtain ⟨c5, hc5⟩ : ∃ c, (c4 || b5) = c := ⟨_, rfl⟩
  obtain ⟨c6, hc6⟩ : ∃ c, (c5 || b6) = c := ⟨_, rfl⟩
  have HVV := Lib.hid (show V = (!c6 && (!(xi.op == 4) || (decide (2 ≤ xi.n) && decide (xi.n ≤ 2 * (G : Int) + 1)))) from by rw [← hV]; unfold rightI; rw [hb0, hb1, hb2, hb3, hb4, hb5, hb6, hc1, hc2, hc3, hc4, hc5, hc6])
  have HOP := Lib.hid (show c1 = false → 1 ≤ xi.op ∧ xi.op ≤ 5 from fun h => by
    rw [← hc1, ← hb0, ← hb1, Bool.or_eq_false_iff, decide_eq_false_iff_not, decide_eq_false_iff_not] at h
    omega)
  have HQ0 := Lib.hid hb0
  have HQ1 := Lib.hid hb1
  have HQ2 := Lib.hid hb2
  have HQ3 := Lib.hid hb3
  have HQ4 := Lib.hid hb4
  have HQ5 := Lib.hid hb5
  have HQ6 := Lib.hid hb6
  have HC1 := Lib.hid hc1
  have HC2 := Lib.hid hc2
  have HC3 := Lib.hid hc3
  have HC4 := Lib.hid hc4
  have HC5 := Lib.hid hc5
  have HC6 := Lib.hid hc6
  clear hgi hm hG hV hb0 hb1 hb2 hb3 hb4 hb5 hb6 hc1 hc2 hc3 hc4 hc5 hc6
  unfold insV
  go_enter Tryd.func48, Tryd.ntmps48
  go_upto_region 1 with fail
  rw [HGI.out]
  unfold insV at HX0 HB
  generalize w.alloc (.cells _ 64) = wa at *
  refine wp_region_dag (E := Ext) (w0 := wa) (Φ := fun i v w => match i with | 0 => (v = .pointer (some ⟨gi, 0, none⟩)) | 1 => (v = .int .i64 xi.op) | 2 => (v = .bool b0) | 3 => (v = .bool b0) | 4 => (v = sk b0 (.pointer (some ⟨gi, 0, none⟩))) | 5 => (v = sk b0 (.int .i64 xi.op)) | 6 => (v = sk b0 (.bool b1)) | 7 => (v = .bool c1) | 8 => (v = .bool c1) | 9 => (v = sk c1 (.agg #[.int .i64 xi.op, .int .i64 xi.x, .int .i64 xi.y, .int .i64 xi.n, .int .u64 (wd xi.set 0 : Nat), .int .u64 (wd xi.set 1 : Nat), .int .u64 (wd xi.set 2 : Nat), .int .u64 (wd xi.set 3 : Nat)])) | 10 => (v = sk c1 (.agg #[.int .i64 xi.op, .int .i64 xi.x, .int .i64 xi.y, .int .i64 xi.n, .int .u64 (wd xi.set 0 : Nat), .int .u64 (wd xi.set 1 : Nat), .int .u64 (wd xi.set 2 : Nat), .int .u64 (wd xi.set 3 : Nat)])) | 11 => (v = sk c1 (.agg (insV (bareI xi)).toArray)) | 12 => (v = sk c1 (.bool b2)) | 13 => (v = .bool c2) | 14 => (v = .bool c2) | 15 => (v = sk c2 (.pointer (some ⟨gi, 1, none⟩))) | 16 => (v = sk c2 (.int .i64 xi.x)) | 17 => (v = sk c2 (.bool b3)) | 18 => (v = .bool c3) | 19 => (v = .bool c3) | 20 => (v = sk c3 (.pointer (some ⟨gi, 1, none⟩))) | 21 => (v = sk c3 (.int .i64 xi.x)) | 22 => (v = sk c3 (.int .i64 (many : Nat))) | 23 => (v = sk c3 (.bool b4)) | 24 => (v = .bool c4) | 25 => (v = .bool c4) | 26 => (v = sk c4 (.pointer (some ⟨gi, 2, none⟩))) | 27 => (v = sk c4 (.int .i64 xi.y)) | 28 => (v = sk c4 (.bool b5)) | 29 => (v = .bool c5) | 30 => (v = .bool c5) | 31 => (v = sk c5 (.pointer (some ⟨gi, 2, none⟩))) | 32 => (v = sk c5 (.int .i64 xi.y)) | 33 => (v = sk c5 (.int .i64 (many : Nat))) | 34 => (v = sk c5 (.bool b6)) | 35 => (v = .bool c6) | _ => True) (show Tryd.prog.follows .mixedOrders = true from Checked.mixed Tryd.checked) 59 rfl (by decide +kernel) ?_ ((Below.refl _ _).drew) ?_ ⟨?_, ?_, ?_, ?_, ?_, ?_, ?_, ?_, ?_, ?_, ?_, ?_, ?_, ?_, ?_, ?_, ?_, ?_, ?_, ?_, ?_, ?_, ?_, ?_, ?_, ?_, ?_, ?_, ?_, ?_, ?_, ?_, ?_, ?_, ?_, ?_, trivial⟩ ?_
  · intro i v w w' h hE
    match i, h with
    | 0, h => exact h
    | 1, h => exact h
    | 2, h => exact h
    | 3, h => exact h
    | 4, h => exact h
    | 5, h => exact h
    | 6, h => exact h
    | 7, h => exact h
    | 8, h => exact h
    | 9, h => exact h
    | 10, h => exact h
    | 11, h => exact h
    | 12, h => exact h
    | 13, h => exact h
    | 14, h => exact h
    | 15, h => exact h
    | 16, h => exact h
    | 17, h => exact h
    | 18, h => exact h
    | 19, h => exact h
    | 20, h => exact h
    | 21, h => exact h
    | 22, h => exact h
    | 23, h => exact h
    | 24, h => exact h
    | 25, h => exact h
    | 26, h => exact h
    | 27, h => exact h
    | 28, h => exact h
    | 29, h => exact h
    | 30, h => exact h
    | 31, h => exact h
    | 32, h => exact h
    | 33, h => exact h
    | 34, h => exact h
    | 35, h => exact h
    | _ + 36, _ => trivial
  · exact fun w w' h h' => h.trans h'
  ·
    intro ac w hE hsz hdf h
    have e3 : ac.tmps[3]? = some (.pointer (some ⟨gi, 0, none⟩)) := by obtain ⟨v, h1, h2⟩ := h 3 (by decide +kernel); exact h1.trans h2.symm
    clear h hsz hdf
    go_wp2
    exact ⟨_, rfl, rfl, Ext.refl _⟩
  ·
    intro ac w hE hsz hdf h
    have e7 : ac.tmps[7]? = some (.pointer (some ⟨gi, 0, none⟩)) := by obtain ⟨v, h1, h2⟩ := h 7 (by decide +kernel); rw [h1]; exact congrArg some h2
    clear h hsz hdf
    have y := (HB.out.keep hE).cell 0
    go_wp2
    exact ⟨_, rfl, rfl, Ext.refl _⟩
  ·
    intro ac w hE hsz hdf h
    have e8 : ac.tmps[8]? = some (.int .i64 xi.op) := by obtain ⟨v, h1, h2⟩ := h 8 (by decide +kernel); rw [h1]; exact congrArg some h2
    clear h hsz hdf
    go_wp2
    exact ⟨_, rfl, (by rw [← HQ0.out]), Ext.refl _⟩
  ·
    intro ac w hE hsz hdf h
    have e9 : ac.tmps[9]? = some (.bool b0) := by obtain ⟨v, h1, h2⟩ := h 9 (by decide +kernel); rw [h1]; exact congrArg some h2
    clear h hsz hdf
    go_wp2
    exact ⟨_, rfl, rfl, Ext.refl _⟩
  ·
    intro ac w hE hsz hdf h
    cases b0
    · have e10 : ac.tmps[10]? = some (.bool false) := by obtain ⟨v, h1, h2⟩ := h 10 (by decide +kernel); rw [h1]; exact congrArg some h2
      have e3 : ac.tmps[3]? = some (.pointer (some ⟨gi, 0, none⟩)) := by obtain ⟨v, h1, h2⟩ := h 3 (by decide +kernel); exact h1.trans h2.symm
      clear h hsz hdf
      go_wp2
      exact ⟨_, rfl, rfl, Ext.refl _⟩
    · have e10 : ac.tmps[10]? = some (.bool true) := by obtain ⟨v, h1, h2⟩ := h 10 (by decide +kernel); rw [h1]; exact congrArg some h2
      clear h hsz hdf
      go_wp2
      exact ⟨_, rfl, rfl, Ext.refl _⟩
  ·
    intro ac w hE hsz hdf h
    cases b0
    · have e10 : ac.tmps[10]? = some (.bool false) := by obtain ⟨v, h1, h2⟩ := h 10 (by decide +kernel); rw [h1]; exact congrArg some h2
      have e11 : ac.tmps[11]? = some (.pointer (some ⟨gi, 0, none⟩)) := by obtain ⟨v, h1, h2⟩ := h 11 (by decide +kernel); rw [h1]; exact congrArg some h2
      clear h hsz hdf
      have hk := HB.out.keep hE; have y0 := hk.cell 0; have y1 := hk.cell 1; have y2 := hk.cell 2; have y3 := hk.cell 3; have y4 := hk.cell 4; have y5 := hk.cell 5; have y6 := hk.cell 6; have y7 := hk.cell 7
      go_wp2
      exact ⟨_, rfl, rfl, Ext.refl _⟩
    · have e10 : ac.tmps[10]? = some (.bool true) := by obtain ⟨v, h1, h2⟩ := h 10 (by decide +kernel); rw [h1]; exact congrArg some h2
      clear h hsz hdf
      go_wp2
      exact ⟨_, rfl, rfl, Ext.refl _⟩
  ·
    intro ac w hE hsz hdf h
    cases b0
    · have e10 : ac.tmps[10]? = some (.bool false) := by obtain ⟨v, h1, h2⟩ := h 10 (by decide +kernel); rw [h1]; exact congrArg some h2
      have e12 : ac.tmps[12]? = some (.int .i64 xi.op) := by obtain ⟨v, h1, h2⟩ := h 12 (by decide +kernel); rw [h1]; exact congrArg some h2
      clear h hsz hdf
      go_wp2
      exact ⟨_, rfl, (by rw [← HQ1.out]; rfl), Ext.refl _⟩
    · have e10 : ac.tmps[10]? = some (.bool true) := by obtain ⟨v, h1, h2⟩ := h 10 (by decide +kernel); rw [h1]; exact congrArg some h2
      clear h hsz hdf
      go_wp2
      exact ⟨_, rfl, rfl, Ext.refl _⟩
  ·
    intro ac w hE hsz hdf h
    cases b0
    · have e10 : ac.tmps[10]? = some (.bool false) := by obtain ⟨v, h1, h2⟩ := h 10 (by decide +kernel); rw [h1]; exact congrArg some h2
      have e13 : ac.tmps[13]? = some (.bool b1) := by obtain ⟨v, h1, h2⟩ := h 13 (by decide +kernel); rw [h1]; exact congrArg some h2
      clear h hsz hdf
      go_wp2
      exact ⟨_, rfl, (by rw [← HC1.out]; rfl), Ext.refl _⟩
    · have e10 : ac.tmps[10]? = some (.bool true) := by obtain ⟨v, h1, h2⟩ := h 10 (by decide +kernel); rw [h1]; exact congrArg some h2
      clear h hsz hdf
      go_wp2
      exact ⟨_, rfl, (by rw [← HC1.out]; rfl), Ext.refl _⟩
  ·
    intro ac w hE hsz hdf h
    have e14 : ac.tmps[14]? = some (.bool c1) := by obtain ⟨v, h1, h2⟩ := h 14 (by decide +kernel); rw [h1]; exact congrArg some h2
    clear h hsz hdf
    go_wp2
    exact ⟨_, rfl, rfl, Ext.refl _⟩
  ·
    intro ac w hE hsz hdf h
    cases c1
    · have e15 : ac.tmps[15]? = some (.bool false) := by obtain ⟨v, h1, h2⟩ := h 15 (by decide +kernel); rw [h1]; exact congrArg some h2
      have e3 : ac.tmps[3]? = some (.pointer (some ⟨gi, 0, none⟩)) := by obtain ⟨v, h1, h2⟩ := h 3 (by decide +kernel); exact h1.trans h2.symm
      clear h hsz hdf
      have hk := HB.out.keep hE; have y0 := hk.cell 0; have y1 := hk.cell 1; have y2 := hk.cell 2; have y3 := hk.cell 3; have y4 := hk.cell 4; have y5 := hk.cell 5; have y6 := hk.cell 6; have y7 := hk.cell 7
      go_wp2
      exact ⟨_, rfl, rfl, Ext.refl _⟩
    · have e15 : ac.tmps[15]? = some (.bool true) := by obtain ⟨v, h1, h2⟩ := h 15 (by decide +kernel); rw [h1]; exact congrArg some h2
      clear h hsz hdf
      go_wp2
      exact ⟨_, rfl, rfl, Ext.refl _⟩
  ·
    intro ac w hE hsz hdf h
    cases c1
    · have e15 : ac.tmps[15]? = some (.bool false) := by obtain ⟨v, h1, h2⟩ := h 15 (by decide +kernel); rw [h1]; exact congrArg some h2
      have e3 : ac.tmps[3]? = some (.pointer (some ⟨gi, 0, none⟩)) := by obtain ⟨v, h1, h2⟩ := h 3 (by decide +kernel); exact h1.trans h2.symm
      clear h hsz hdf
      have hk := HB.out.keep hE; have y0 := hk.cell 0; have y1 := hk.cell 1; have y2 := hk.cell 2; have y3 := hk.cell 3; have y4 := hk.cell 4; have y5 := hk.cell 5; have y6 := hk.cell 6; have y7 := hk.cell 7
      go_wp2
      exact ⟨_, rfl, rfl, Ext.refl _⟩
    · have e15 : ac.tmps[15]? = some (.bool true) := by obtain ⟨v, h1, h2⟩ := h 15 (by decide +kernel); rw [h1]; exact congrArg some h2
      clear h hsz hdf
      go_wp2
      exact ⟨_, rfl, rfl, Ext.refl _⟩
  ·
    intro ac w hE hsz hdf h
    cases c1
    · have e15 : ac.tmps[15]? = some (.bool false) := by obtain ⟨v, h1, h2⟩ := h 15 (by decide +kernel); rw [h1]; exact congrArg some h2
      have e17 : ac.tmps[17]? = some (.agg #[.int .i64 xi.op, .int .i64 xi.x, .int .i64 xi.y, .int .i64 xi.n, .int .u64 (wd xi.set 0 : Nat), .int .u64 (wd xi.set 1 : Nat), .int .u64 (wd xi.set 2 : Nat), .int .u64 (wd xi.set 3 : Nat)]) := by obtain ⟨v, h1, h2⟩ := h 17 (by decide +kernel); rw [h1]; exact congrArg some h2
      clear h hsz hdf
      go_wp2_with (go_at_call 73; refine (nfBareAny xi (HOP.out rfl).1 (HOP.out rfl).2 w).mono ?_; rintro e w9 ⟨rfl, hx9⟩)
      exact ⟨_, rfl, rfl, hx9⟩
    · have e15 : ac.tmps[15]? = some (.bool true) := by obtain ⟨v, h1, h2⟩ := h 15 (by decide +kernel); rw [h1]; exact congrArg some h2
      clear h hsz hdf
      go_wp2
      exact ⟨_, rfl, rfl, Ext.refl _⟩
  ·
    intro ac w hE hsz hdf h
    cases c1
    · have e15 : ac.tmps[15]? = some (.bool false) := by obtain ⟨v, h1, h2⟩ := h 15 (by decide +kernel); rw [h1]; exact congrArg some h2
      have e16 : ac.tmps[16]? = some (.agg #[.int .i64 xi.op, .int .i64 xi.x, .int .i64 xi.y, .int .i64 xi.n, .int .u64 (wd xi.set 0 : Nat), .int .u64 (wd xi.set 1 : Nat), .int .u64 (wd xi.set 2 : Nat), .int .u64 (wd xi.set 3 : Nat)]) := by obtain ⟨v, h1, h2⟩ := h 16 (by decide +kernel); rw [h1]; exact congrArg some h2
      have e18 : ac.tmps[18]? = some (.agg (insV (bareI xi)).toArray) := by obtain ⟨v, h1, h2⟩ := h 18 (by decide +kernel); rw [h1]; exact congrArg some h2
      clear h hsz hdf
      have hq := fun w => insEq xi (bareI xi) w
      have hb := HQ2.out
      obtain ⟨z, hz⟩ : ∃ z, insEqB xi (bareI xi) = z := ⟨_, rfl⟩
      rw [hz] at hq hb
      unfold insV at e18
      clear hz
      go_wp2
      exact ⟨_, rfl, (by rw [← hb]; rfl), Ext.refl _⟩
    · have e15 : ac.tmps[15]? = some (.bool true) := by obtain ⟨v, h1, h2⟩ := h 15 (by decide +kernel); rw [h1]; exact congrArg some h2
      clear h hsz hdf
      go_wp2
      exact ⟨_, rfl, rfl, Ext.refl _⟩
  ·
    intro ac w hE hsz hdf h
    cases c1
    · have e15 : ac.tmps[15]? = some (.bool false) := by obtain ⟨v, h1, h2⟩ := h 15 (by decide +kernel); rw [h1]; exact congrArg some h2
      have e19 : ac.tmps[19]? = some (.bool b2) := by obtain ⟨v, h1, h2⟩ := h 19 (by decide +kernel); rw [h1]; exact congrArg some h2
      clear h hsz hdf
      go_wp2
      exact ⟨_, rfl, (by rw [← HC2.out]; rfl), Ext.refl _⟩
    · have e15 : ac.tmps[15]? = some (.bool true) := by obtain ⟨v, h1, h2⟩ := h 15 (by decide +kernel); rw [h1]; exact congrArg some h2
      clear h hsz hdf
      go_wp2
      exact ⟨_, rfl, (by rw [← HC2.out]; rfl), Ext.refl _⟩
  ·
    intro ac w hE hsz hdf h
    have e20 : ac.tmps[20]? = some (.bool c2) := by obtain ⟨v, h1, h2⟩ := h 20 (by decide +kernel); rw [h1]; exact congrArg some h2
    clear h hsz hdf
    go_wp2
    exact ⟨_, rfl, rfl, Ext.refl _⟩
  ·
    intro ac w hE hsz hdf h
    cases c2
    · have e21 : ac.tmps[21]? = some (.bool false) := by obtain ⟨v, h1, h2⟩ := h 21 (by decide +kernel); rw [h1]; exact congrArg some h2
      have e3 : ac.tmps[3]? = some (.pointer (some ⟨gi, 0, none⟩)) := by obtain ⟨v, h1, h2⟩ := h 3 (by decide +kernel); exact h1.trans h2.symm
      clear h hsz hdf
      go_wp2
      exact ⟨_, rfl, rfl, Ext.refl _⟩
    · have e21 : ac.tmps[21]? = some (.bool true) := by obtain ⟨v, h1, h2⟩ := h 21 (by decide +kernel); rw [h1]; exact congrArg some h2
      clear h hsz hdf
      go_wp2
      exact ⟨_, rfl, rfl, Ext.refl _⟩
  ·
    intro ac w hE hsz hdf h
    cases c2
    · have e21 : ac.tmps[21]? = some (.bool false) := by obtain ⟨v, h1, h2⟩ := h 21 (by decide +kernel); rw [h1]; exact congrArg some h2
      have e22 : ac.tmps[22]? = some (.pointer (some ⟨gi, 1, none⟩)) := by obtain ⟨v, h1, h2⟩ := h 22 (by decide +kernel); rw [h1]; exact congrArg some h2
      clear h hsz hdf
      have hk := HB.out.keep hE; have y0 := hk.cell 0; have y1 := hk.cell 1; have y2 := hk.cell 2; have y3 := hk.cell 3; have y4 := hk.cell 4; have y5 := hk.cell 5; have y6 := hk.cell 6; have y7 := hk.cell 7
      go_wp2
      exact ⟨_, rfl, rfl, Ext.refl _⟩
    · have e21 : ac.tmps[21]? = some (.bool true) := by obtain ⟨v, h1, h2⟩ := h 21 (by decide +kernel); rw [h1]; exact congrArg some h2
      clear h hsz hdf
      go_wp2
      exact ⟨_, rfl, rfl, Ext.refl _⟩
  ·
    intro ac w hE hsz hdf h
    cases c2
    · have e21 : ac.tmps[21]? = some (.bool false) := by obtain ⟨v, h1, h2⟩ := h 21 (by decide +kernel); rw [h1]; exact congrArg some h2
      have e23 : ac.tmps[23]? = some (.int .i64 xi.x) := by obtain ⟨v, h1, h2⟩ := h 23 (by decide +kernel); rw [h1]; exact congrArg some h2
      clear h hsz hdf
      go_wp2
      exact ⟨_, rfl, (by rw [← HQ3.out]; rfl), Ext.refl _⟩
    · have e21 : ac.tmps[21]? = some (.bool true) := by obtain ⟨v, h1, h2⟩ := h 21 (by decide +kernel); rw [h1]; exact congrArg some h2
      clear h hsz hdf
      go_wp2
      exact ⟨_, rfl, rfl, Ext.refl _⟩
  ·
    intro ac w hE hsz hdf h
    cases c2
    · have e21 : ac.tmps[21]? = some (.bool false) := by obtain ⟨v, h1, h2⟩ := h 21 (by decide +kernel); rw [h1]; exact congrArg some h2
      have e24 : ac.tmps[24]? = some (.bool b3) := by obtain ⟨v, h1, h2⟩ := h 24 (by decide +kernel); rw [h1]; exact congrArg some h2
      clear h hsz hdf
      go_wp2
      exact ⟨_, rfl, (by rw [← HC3.out]; rfl), Ext.refl _⟩
    · have e21 : ac.tmps[21]? = some (.bool true) := by obtain ⟨v, h1, h2⟩ := h 21 (by decide +kernel); rw [h1]; exact congrArg some h2
      clear h hsz hdf
      go_wp2
      exact ⟨_, rfl, (by rw [← HC3.out]; rfl), Ext.refl _⟩
  ·
    intro ac w hE hsz hdf h
    have e25 : ac.tmps[25]? = some (.bool c3) := by obtain ⟨v, h1, h2⟩ := h 25 (by decide +kernel); rw [h1]; exact congrArg some h2
    clear h hsz hdf
    go_wp2
    exact ⟨_, rfl, rfl, Ext.refl _⟩
  ·
    intro ac w hE hsz hdf h
    cases c3
    · have e26 : ac.tmps[26]? = some (.bool false) := by obtain ⟨v, h1, h2⟩ := h 26 (by decide +kernel); rw [h1]; exact congrArg some h2
      have e3 : ac.tmps[3]? = some (.pointer (some ⟨gi, 0, none⟩)) := by obtain ⟨v, h1, h2⟩ := h 3 (by decide +kernel); exact h1.trans h2.symm
      clear h hsz hdf
      go_wp2
      exact ⟨_, rfl, rfl, Ext.refl _⟩
    · have e26 : ac.tmps[26]? = some (.bool true) := by obtain ⟨v, h1, h2⟩ := h 26 (by decide +kernel); rw [h1]; exact congrArg some h2
      clear h hsz hdf
      go_wp2
      exact ⟨_, rfl, rfl, Ext.refl _⟩
  ·
    intro ac w hE hsz hdf h
    cases c3
    · have e26 : ac.tmps[26]? = some (.bool false) := by obtain ⟨v, h1, h2⟩ := h 26 (by decide +kernel); rw [h1]; exact congrArg some h2
      have e27 : ac.tmps[27]? = some (.pointer (some ⟨gi, 1, none⟩)) := by obtain ⟨v, h1, h2⟩ := h 27 (by decide +kernel); rw [h1]; exact congrArg some h2
      clear h hsz hdf
      have hk := HB.out.keep hE; have y0 := hk.cell 0; have y1 := hk.cell 1; have y2 := hk.cell 2; have y3 := hk.cell 3; have y4 := hk.cell 4; have y5 := hk.cell 5; have y6 := hk.cell 6; have y7 := hk.cell 7
      go_wp2
      exact ⟨_, rfl, rfl, Ext.refl _⟩
    · have e26 : ac.tmps[26]? = some (.bool true) := by obtain ⟨v, h1, h2⟩ := h 26 (by decide +kernel); rw [h1]; exact congrArg some h2
      clear h hsz hdf
      go_wp2
      exact ⟨_, rfl, rfl, Ext.refl _⟩
  ·
    intro ac w hE hsz hdf h
    cases c3
    · have e26 : ac.tmps[26]? = some (.bool false) := by obtain ⟨v, h1, h2⟩ := h 26 (by decide +kernel); rw [h1]; exact congrArg some h2
      have e1 : ac.tmps[1]? = some (.int .i64 (many : Nat)) := by obtain ⟨v, h1, h2⟩ := h 1 (by decide +kernel); exact h1.trans h2.symm
      clear h hsz hdf
      go_wp2
      exact ⟨_, rfl, rfl, Ext.refl _⟩
    · have e26 : ac.tmps[26]? = some (.bool true) := by obtain ⟨v, h1, h2⟩ := h 26 (by decide +kernel); rw [h1]; exact congrArg some h2
      clear h hsz hdf
      go_wp2
      exact ⟨_, rfl, rfl, Ext.refl _⟩
  ·
    intro ac w hE hsz hdf h
    cases c3
    · have e26 : ac.tmps[26]? = some (.bool false) := by obtain ⟨v, h1, h2⟩ := h 26 (by decide +kernel); rw [h1]; exact congrArg some h2
      have e28 : ac.tmps[28]? = some (.int .i64 xi.x) := by obtain ⟨v, h1, h2⟩ := h 28 (by decide +kernel); rw [h1]; exact congrArg some h2
      have e29 : ac.tmps[29]? = some (.int .i64 (many : Nat)) := by obtain ⟨v, h1, h2⟩ := h 29 (by decide +kernel); rw [h1]; exact congrArg some h2
      clear h hsz hdf
      go_wp2
      exact ⟨_, rfl, (by rw [← HQ4.out]; rfl), Ext.refl _⟩
    · have e26 : ac.tmps[26]? = some (.bool true) := by obtain ⟨v, h1, h2⟩ := h 26 (by decide +kernel); rw [h1]; exact congrArg some h2
      clear h hsz hdf
      go_wp2
      exact ⟨_, rfl, rfl, Ext.refl _⟩
  ·
    intro ac w hE hsz hdf h
    cases c3
    · have e26 : ac.tmps[26]? = some (.bool false) := by obtain ⟨v, h1, h2⟩ := h 26 (by decide +kernel); rw [h1]; exact congrArg some h2
      have e30 : ac.tmps[30]? = some (.bool b4) := by obtain ⟨v, h1, h2⟩ := h 30 (by decide +kernel); rw [h1]; exact congrArg some h2
      clear h hsz hdf
      go_wp2
      exact ⟨_, rfl, (by rw [← HC4.out]; rfl), Ext.refl _⟩
    · have e26 : ac.tmps[26]? = some (.bool true) := by obtain ⟨v, h1, h2⟩ := h 26 (by decide +kernel); rw [h1]; exact congrArg some h2
      clear h hsz hdf
      go_wp2
      exact ⟨_, rfl, (by rw [← HC4.out]; rfl), Ext.refl _⟩
  ·
    intro ac w hE hsz hdf h
    have e31 : ac.tmps[31]? = some (.bool c4) := by obtain ⟨v, h1, h2⟩ := h 31 (by decide +kernel); rw [h1]; exact congrArg some h2
    clear h hsz hdf
    go_wp2
    exact ⟨_, rfl, rfl, Ext.refl _⟩
  ·
    intro ac w hE hsz hdf h
    cases c4
    · have e32 : ac.tmps[32]? = some (.bool false) := by obtain ⟨v, h1, h2⟩ := h 32 (by decide +kernel); rw [h1]; exact congrArg some h2
      have e3 : ac.tmps[3]? = some (.pointer (some ⟨gi, 0, none⟩)) := by obtain ⟨v, h1, h2⟩ := h 3 (by decide +kernel); exact h1.trans h2.symm
      clear h hsz hdf
      go_wp2
      exact ⟨_, rfl, rfl, Ext.refl _⟩
    · have e32 : ac.tmps[32]? = some (.bool true) := by obtain ⟨v, h1, h2⟩ := h 32 (by decide +kernel); rw [h1]; exact congrArg some h2
      clear h hsz hdf
      go_wp2
      exact ⟨_, rfl, rfl, Ext.refl _⟩
  ·
    intro ac w hE hsz hdf h
    cases c4
    · have e32 : ac.tmps[32]? = some (.bool false) := by obtain ⟨v, h1, h2⟩ := h 32 (by decide +kernel); rw [h1]; exact congrArg some h2
      have e33 : ac.tmps[33]? = some (.pointer (some ⟨gi, 2, none⟩)) := by obtain ⟨v, h1, h2⟩ := h 33 (by decide +kernel); rw [h1]; exact congrArg some h2
      clear h hsz hdf
      have hk := HB.out.keep hE; have y0 := hk.cell 0; have y1 := hk.cell 1; have y2 := hk.cell 2; have y3 := hk.cell 3; have y4 := hk.cell 4; have y5 := hk.cell 5; have y6 := hk.cell 6; have y7 := hk.cell 7
      go_wp2
      exact ⟨_, rfl, rfl, Ext.refl _⟩
    · have e32 : ac.tmps[32]? = some (.bool true) := by obtain ⟨v, h1, h2⟩ := h 32 (by decide +kernel); rw [h1]; exact congrArg some h2
      clear h hsz hdf
      go_wp2
      exact ⟨_, rfl, rfl, Ext.refl _⟩
  ·
    intro ac w hE hsz hdf h
    cases c4
    · have e32 : ac.tmps[32]? = some (.bool false) := by obtain ⟨v, h1, h2⟩ := h 32 (by decide +kernel); rw [h1]; exact congrArg some h2
      have e34 : ac.tmps[34]? = some (.int .i64 xi.y) := by obtain ⟨v, h1, h2⟩ := h 34 (by decide +kernel); rw [h1]; exact congrArg some h2
      clear h hsz hdf
      go_wp2
      exact ⟨_, rfl, (by rw [← HQ5.out]; rfl), Ext.refl _⟩
    · have e32 : ac.tmps[32]? = some (.bool true) := by obtain ⟨v, h1, h2⟩ := h 32 (by decide +kernel); rw [h1]; exact congrArg some h2
      clear h hsz hdf
      go_wp2
      exact ⟨_, rfl, rfl, Ext.refl _⟩
  ·
    intro ac w hE hsz hdf h
    cases c4
    · have e32 : ac.tmps[32]? = some (.bool false) := by obtain ⟨v, h1, h2⟩ := h 32 (by decide +kernel); rw [h1]; exact congrArg some h2
      have e35 : ac.tmps[35]? = some (.bool b5) := by obtain ⟨v, h1, h2⟩ := h 35 (by decide +kernel); rw [h1]; exact congrArg some h2
      clear h hsz hdf
      go_wp2
      exact ⟨_, rfl, (by rw [← HC5.out]; rfl), Ext.refl _⟩
    · have e32 : ac.tmps[32]? = some (.bool true) := by obtain ⟨v, h1, h2⟩ := h 32 (by decide +kernel); rw [h1]; exact congrArg some h2
      clear h hsz hdf
      go_wp2
      exact ⟨_, rfl, (by rw [← HC5.out]; rfl), Ext.refl _⟩
  ·
    intro ac w hE hsz hdf h
    have e36 : ac.tmps[36]? = some (.bool c5) := by obtain ⟨v, h1, h2⟩ := h 36 (by decide +kernel); rw [h1]; exact congrArg some h2
    clear h hsz hdf
    go_wp2
    exact ⟨_, rfl, rfl, Ext.refl _⟩
  ·
    intro ac w hE hsz hdf h
    cases c5
    · have e37 : ac.tmps[37]? = some (.bool false) := by obtain ⟨v, h1, h2⟩ := h 37 (by decide +kernel); rw [h1]; exact congrArg some h2
      have e3 : ac.tmps[3]? = some (.pointer (some ⟨gi, 0, none⟩)) := by obtain ⟨v, h1, h2⟩ := h 3 (by decide +kernel); exact h1.trans h2.symm
      clear h hsz hdf
      go_wp2
      exact ⟨_, rfl, rfl, Ext.refl _⟩
    · have e37 : ac.tmps[37]? = some (.bool true) := by obtain ⟨v, h1, h2⟩ := h 37 (by decide +kernel); rw [h1]; exact congrArg some h2
      clear h hsz hdf
      go_wp2
      exact ⟨_, rfl, rfl, Ext.refl _⟩
  ·
    intro ac w hE hsz hdf h
    cases c5
    · have e37 : ac.tmps[37]? = some (.bool false) := by obtain ⟨v, h1, h2⟩ := h 37 (by decide +kernel); rw [h1]; exact congrArg some h2
      have e38 : ac.tmps[38]? = some (.pointer (some ⟨gi, 2, none⟩)) := by obtain ⟨v, h1, h2⟩ := h 38 (by decide +kernel); rw [h1]; exact congrArg some h2
      clear h hsz hdf
      have hk := HB.out.keep hE; have y0 := hk.cell 0; have y1 := hk.cell 1; have y2 := hk.cell 2; have y3 := hk.cell 3; have y4 := hk.cell 4; have y5 := hk.cell 5; have y6 := hk.cell 6; have y7 := hk.cell 7
      go_wp2
      exact ⟨_, rfl, rfl, Ext.refl _⟩
    · have e37 : ac.tmps[37]? = some (.bool true) := by obtain ⟨v, h1, h2⟩ := h 37 (by decide +kernel); rw [h1]; exact congrArg some h2
      clear h hsz hdf
      go_wp2
      exact ⟨_, rfl, rfl, Ext.refl _⟩
  ·
    intro ac w hE hsz hdf h
    cases c5
    · have e37 : ac.tmps[37]? = some (.bool false) := by obtain ⟨v, h1, h2⟩ := h 37 (by decide +kernel); rw [h1]; exact congrArg some h2
      have e1 : ac.tmps[1]? = some (.int .i64 (many : Nat)) := by obtain ⟨v, h1, h2⟩ := h 1 (by decide +kernel); exact h1.trans h2.symm
      clear h hsz hdf
      go_wp2
      exact ⟨_, rfl, rfl, Ext.refl _⟩
    · have e37 : ac.tmps[37]? = some (.bool true) := by obtain ⟨v, h1, h2⟩ := h 37 (by decide +kernel); rw [h1]; exact congrArg some h2
      clear h hsz hdf
      go_wp2
      exact ⟨_, rfl, rfl, Ext.refl _⟩
  ·
    intro ac w hE hsz hdf h
    cases c5
    · have e37 : ac.tmps[37]? = some (.bool false) := by obtain ⟨v, h1, h2⟩ := h 37 (by decide +kernel); rw [h1]; exact congrArg some h2
      have e39 : ac.tmps[39]? = some (.int .i64 xi.y) := by obtain ⟨v, h1, h2⟩ := h 39 (by decide +kernel); rw [h1]; exact congrArg some h2
      have e40 : ac.tmps[40]? = some (.int .i64 (many : Nat)) := by obtain ⟨v, h1, h2⟩ := h 40 (by decide +kernel); rw [h1]; exact congrArg some h2
      clear h hsz hdf
      go_wp2
      exact ⟨_, rfl, (by rw [← HQ6.out]; rfl), Ext.refl _⟩
    · have e37 : ac.tmps[37]? = some (.bool true) := by obtain ⟨v, h1, h2⟩ := h 37 (by decide +kernel); rw [h1]; exact congrArg some h2
      clear h hsz hdf
      go_wp2
      exact ⟨_, rfl, rfl, Ext.refl _⟩
  ·
    intro ac w hE hsz hdf h
    cases c5
    · have e37 : ac.tmps[37]? = some (.bool false) := by obtain ⟨v, h1, h2⟩ := h 37 (by decide +kernel); rw [h1]; exact congrArg some h2
      have e41 : ac.tmps[41]? = some (.bool b6) := by obtain ⟨v, h1, h2⟩ := h 41 (by decide +kernel); rw [h1]; exact congrArg some h2
      clear h hsz hdf
      go_wp2
      exact ⟨_, rfl, (by rw [← HC6.out]; rfl), Ext.refl _⟩
    · have e37 : ac.tmps[37]? = some (.bool true) := by obtain ⟨v, h1, h2⟩ := h 37 (by decide +kernel); rw [h1]; exact congrArg some h2
      clear h hsz hdf
      go_wp2
      exact ⟨_, rfl, (by rw [← HC6.out]; rfl), Ext.refl _⟩
  · intro ac w9 hE hsz hdf h hrest
    obtain ⟨v0, s0, g0⟩ := h 0 _ rfl
    have e0 := g0 7 rfl
    obtain rfl : v0 = .pointer (some ⟨gi, 0, none⟩) := s0
    obtain ⟨v1, s1, g1⟩ := h 1 _ rfl
    have e1 := g1 8 rfl
    obtain rfl : v1 = .int .i64 xi.op := s1
    obtain ⟨v2, s2, g2⟩ := h 2 _ rfl
    have e2 := g2 9 rfl
    obtain rfl : v2 = .bool b0 := s2
    obtain ⟨v3, s3, g3⟩ := h 3 _ rfl
    have e3 := g3 10 rfl
    obtain rfl : v3 = .bool b0 := s3
    obtain ⟨v4, s4, g4⟩ := h 4 _ rfl
    have e4 := g4 11 rfl
    obtain rfl : v4 = sk b0 (.pointer (some ⟨gi, 0, none⟩)) := s4
    obtain ⟨v5, s5, g5⟩ := h 5 _ rfl
    have e5 := g5 12 rfl
    obtain rfl : v5 = sk b0 (.int .i64 xi.op) := s5
    obtain ⟨v6, s6, g6⟩ := h 6 _ rfl
    have e6 := g6 13 rfl
    obtain rfl : v6 = sk b0 (.bool b1) := s6
    obtain ⟨v7, s7, g7⟩ := h 7 _ rfl
    have e7 := g7 14 rfl
    obtain rfl : v7 = .bool c1 := s7
    obtain ⟨v8, s8, g8⟩ := h 8 _ rfl
    have e8 := g8 15 rfl
    obtain rfl : v8 = .bool c1 := s8
    obtain ⟨v9, s9, g9⟩ := h 9 _ rfl
    have e9 := g9 16 rfl
    obtain rfl : v9 = sk c1 (.agg #[.int .i64 xi.op, .int .i64 xi.x, .int .i64 xi.y, .int .i64 xi.n, .int .u64 (wd xi.set 0 : Nat), .int .u64 (wd xi.set 1 : Nat), .int .u64 (wd xi.set 2 : Nat), .int .u64 (wd xi.set 3 : Nat)]) := s9
    obtain ⟨v10, s10, g10⟩ := h 10 _ rfl
    have e10 := g10 17 rfl
    obtain rfl : v10 = sk c1 (.agg #[.int .i64 xi.op, .int .i64 xi.x, .int .i64 xi.y, .int .i64 xi.n, .int .u64 (wd xi.set 0 : Nat), .int .u64 (wd xi.set 1 : Nat), .int .u64 (wd xi.set 2 : Nat), .int .u64 (wd xi.set 3 : Nat)]) := s10
    obtain ⟨v11, s11, g11⟩ := h 11 _ rfl
    have e11 := g11 18 rfl
    obtain rfl : v11 = sk c1 (.agg (insV (bareI xi)).toArray) := s11
    obtain ⟨v12, s12, g12⟩ := h 12 _ rfl
    have e12 := g12 19 rfl
    obtain rfl : v12 = sk c1 (.bool b2) := s12
    obtain ⟨v13, s13, g13⟩ := h 13 _ rfl
    have e13 := g13 20 rfl
    obtain rfl : v13 = .bool c2 := s13
    obtain ⟨v14, s14, g14⟩ := h 14 _ rfl
    have e14 := g14 21 rfl
    obtain rfl : v14 = .bool c2 := s14
    obtain ⟨v15, s15, g15⟩ := h 15 _ rfl
    have e15 := g15 22 rfl
    obtain rfl : v15 = sk c2 (.pointer (some ⟨gi, 1, none⟩)) := s15
    obtain ⟨v16, s16, g16⟩ := h 16 _ rfl
    have e16 := g16 23 rfl
    obtain rfl : v16 = sk c2 (.int .i64 xi.x) := s16
    obtain ⟨v17, s17, g17⟩ := h 17 _ rfl
    have e17 := g17 24 rfl
    obtain rfl : v17 = sk c2 (.bool b3) := s17
    obtain ⟨v18, s18, g18⟩ := h 18 _ rfl
    have e18 := g18 25 rfl
    obtain rfl : v18 = .bool c3 := s18
    obtain ⟨v19, s19, g19⟩ := h 19 _ rfl
    have e19 := g19 26 rfl
    obtain rfl : v19 = .bool c3 := s19
    obtain ⟨v20, s20, g20⟩ := h 20 _ rfl
    have e20 := g20 27 rfl
    obtain rfl : v20 = sk c3 (.pointer (some ⟨gi, 1, none⟩)) := s20
    obtain ⟨v21, s21, g21⟩ := h 21 _ rfl
    have e21 := g21 28 rfl
    obtain rfl : v21 = sk c3 (.int .i64 xi.x) := s21
    obtain ⟨v22, s22, g22⟩ := h 22 _ rfl
    have e22 := g22 29 rfl
    obtain rfl : v22 = sk c3 (.int .i64 (many : Nat)) := s22
    obtain ⟨v23, s23, g23⟩ := h 23 _ rfl
    have e23 := g23 30 rfl
    obtain rfl : v23 = sk c3 (.bool b4) := s23
    obtain ⟨v24, s24, g24⟩ := h 24 _ rfl
    have e24 := g24 31 rfl
    obtain rfl : v24 = .bool c4 := s24
    obtain ⟨v25, s25, g25⟩ := h 25 _ rfl
    have e25 := g25 32 rfl
    obtain rfl : v25 = .bool c4 := s25
    obtain ⟨v26, s26, g26⟩ := h 26 _ rfl
    have e26 := g26 33 rfl
    obtain rfl : v26 = sk c4 (.pointer (some ⟨gi, 2, none⟩)) := s26
    obtain ⟨v27, s27, g27⟩ := h 27 _ rfl
    have e27 := g27 34 rfl
    obtain rfl : v27 = sk c4 (.int .i64 xi.y) := s27
    obtain ⟨v28, s28, g28⟩ := h 28 _ rfl
    have e28 := g28 35 rfl
    obtain rfl : v28 = sk c4 (.bool b5) := s28
    obtain ⟨v29, s29, g29⟩ := h 29 _ rfl
    have e29 := g29 36 rfl
    obtain rfl : v29 = .bool c5 := s29
    obtain ⟨v30, s30, g30⟩ := h 30 _ rfl
    have e30 := g30 37 rfl
    obtain rfl : v30 = .bool c5 := s30
    obtain ⟨v31, s31, g31⟩ := h 31 _ rfl
    have e31 := g31 38 rfl
    obtain rfl : v31 = sk c5 (.pointer (some ⟨gi, 2, none⟩)) := s31
    obtain ⟨v32, s32, g32⟩ := h 32 _ rfl
    have e32 := g32 39 rfl
    obtain rfl : v32 = sk c5 (.int .i64 xi.y) := s32
    obtain ⟨v33, s33, g33⟩ := h 33 _ rfl
    have e33 := g33 40 rfl
    obtain rfl : v33 = sk c5 (.int .i64 (many : Nat)) := s33
    obtain ⟨v34, s34, g34⟩ := h 34 _ rfl
    have e34 := g34 41 rfl
    obtain rfl : v34 = sk c5 (.bool b6) := s34
    obtain ⟨v35, s35, g35⟩ := h 35 _ rfl
    have e35 := g35 42 rfl
    obtain rfl : v35 = .bool c6 := s35
    have ha := act_of [(7, .pointer (some ⟨gi, 0, none⟩)), (8, .int .i64 xi.op), (9, .bool b0), (10, .bool b0), (11, sk b0 (.pointer (some ⟨gi, 0, none⟩))), (12, sk b0 (.int .i64 xi.op)), (13, sk b0 (.bool b1)), (14, .bool c1), (15, .bool c1), (16, sk c1 (.agg #[.int .i64 xi.op, .int .i64 xi.x, .int .i64 xi.y, .int .i64 xi.n, .int .u64 (wd xi.set 0 : Nat), .int .u64 (wd xi.set 1 : Nat), .int .u64 (wd xi.set 2 : Nat), .int .u64 (wd xi.set 3 : Nat)])), (17, sk c1 (.agg #[.int .i64 xi.op, .int .i64 xi.x, .int .i64 xi.y, .int .i64 xi.n, .int .u64 (wd xi.set 0 : Nat), .int .u64 (wd xi.set 1 : Nat), .int .u64 (wd xi.set 2 : Nat), .int .u64 (wd xi.set 3 : Nat)])), (18, sk c1 (.agg (insV (bareI xi)).toArray)), (19, sk c1 (.bool b2)), (20, .bool c2), (21, .bool c2), (22, sk c2 (.pointer (some ⟨gi, 1, none⟩))), (23, sk c2 (.int .i64 xi.x)), (24, sk c2 (.bool b3)), (25, .bool c3), (26, .bool c3), (27, sk c3 (.pointer (some ⟨gi, 1, none⟩))), (28, sk c3 (.int .i64 xi.x)), (29, sk c3 (.int .i64 (many : Nat))), (30, sk c3 (.bool b4)), (31, .bool c4), (32, .bool c4), (33, sk c4 (.pointer (some ⟨gi, 2, none⟩))), (34, sk c4 (.int .i64 xi.y)), (35, sk c4 (.bool b5)), (36, .bool c5), (37, .bool c5), (38, sk c5 (.pointer (some ⟨gi, 2, none⟩))), (39, sk c5 (.int .i64 xi.y)), (40, sk c5 (.int .i64 (many : Nat))), (41, sk c5 (.bool b6)), (42, .bool c6)] rfl hsz hdf (by intro p hp; simp only [List.mem_cons, List.not_mem_nil, or_false] at hp; rcases hp with rfl | rfl | rfl | rfl | rfl | rfl | rfl | rfl | rfl | rfl | rfl | rfl | rfl | rfl | rfl | rfl | rfl | rfl | rfl | rfl | rfl | rfl | rfl | rfl | rfl | rfl | rfl | rfl | rfl | rfl | rfl | rfl | rfl | rfl | rfl | rfl <;> first | exact e0 | exact e1 | exact e2 | exact e3 | exact e4 | exact e5 | exact e6 | exact e7 | exact e8 | exact e9 | exact e10 | exact e11 | exact e12 | exact e13 | exact e14 | exact e15 | exact e16 | exact e17 | exact e18 | exact e19 | exact e20 | exact e21 | exact e22 | exact e23 | exact e24 | exact e25 | exact e26 | exact e27 | exact e28 | exact e29 | exact e30 | exact e31 | exact e32 | exact e33 | exact e34 | exact e35) hrest
    clear h hrest hsz hdf e0 e1 e2 e3 e4 e5 e6 e7 e8 e9 e10 e11 e12 e13 e14 e15 e16 e17 e18 e19 e20 e21 e22 e23 e24 e25 e26 e27 e28 e29 e30 e31 e32 e33 e34 e35 g0 g1 g2 g3 g4 g5 g6 g7 g8 g9 g10 g11 g12 g13 g14 g15 g16 g17 g18 g19 g20 g21 g22 g23 g24 g25 g26 g27 g28 g29 g30 g31 g32 g33 g34 g35
    subst ha
    simp only [List.foldl_cons, List.foldl_nil, Act.put, List.setIfInBounds_toArray, List.set_cons_succ, List.set_cons_zero]
    have HXE := Lib.hid (Ext.trans HX0.out hE)
    have hk := HB.out.keep hE
    have y0 : w9.cell? ⟨gi, 0, none⟩ = some (.int .i64 xi.op) := hk.cell 0
    have y3 : w9.cell? ⟨gi, 3, none⟩ = some (.int .i64 xi.n) := hk.cell 3
    clear hk hE
    cases c6
    · have hG2 : IntKind.i64.wrap (2 * (G : Int)) = 2 * (G : Int) := wrap_id (by omega) (by have := HG.out; omega)
      have hG3 : IntKind.i64.wrap (2 * (G : Int) + 1) = 2 * (G : Int) + 1 := wrap_id (by omega) (by have := HG.out; omega)
      by_cases h4 : xi.op = 4
      · have hq4 : (xi.op == 4) = true := by rw [h4]; rfl
        have hq4n : (xi.op != 4) = false := by rw [h4]; rfl
        have hvv := HVV.out
        rw [hq4] at hvv
        have H4 := Lib.hid h4
        clear h4 hq4
        by_cases h2 : (2 : Int) ≤ xi.n
        · by_cases h3 : xi.n ≤ 2 * (G : Int) + 1
          · have hv : V = true := by rw [hvv, decide_eq_true h2, decide_eq_true h3]; rfl
            subst hv
            clear hvv
            go_wp2
            go_ret
            exact ⟨rfl, HXE.out⟩
          · have hv : V = false := by rw [hvv, decide_eq_true h2, decide_eq_false h3]; rfl
            subst hv
            clear hvv
            go_wp2
            go_ret
            exact ⟨rfl, HXE.out⟩
        · have hv : V = false := by rw [hvv, decide_eq_false h2]; rfl
          subst hv
          clear hvv
          go_wp2
          go_ret
          exact ⟨rfl, HXE.out⟩
      · have hq4 : (xi.op == 4) = false := beq_eq_false_iff_ne.2 h4
        have hq4n : (xi.op != 4) = true := by simpa using h4
        have hv : V = true := by rw [HVV.out, hq4]; rfl
        subst hv
        clear h4 hq4
        go_wp2
        go_ret
        exact ⟨rfl, HXE.out⟩
    · have hv : V = false := HVV.out
      subst hv
      go_wp2
      go_ret
      exact ⟨rfl, HXE.out⟩
end Go.Proofs.YtdhmfgaiomfodaaDoor
namespace Go.Proofs.YtdhmfgaiomfodaaDoor
open Go Go.RowKit
attribute [local irreducible] wd

theorem nfRightFnAny (N G : Nat) (hl : N ≤ 1000) (hG : G ≤ 9) (A : Option Addr) (cc gp : Nat) (xi : Ins) (w : World) (hB : Blk w gp 32 [.slice A N cc, .int .i64 (G : Nat)]) :
    Calls Tryd.prog 47 #[.agg (insV xi).toArray, .pointer (some ⟨gp, 0, none⟩)] w fun e w' => e = .returned (.bool (!rightI xi N G)) ∧ Ext w w' := by
  have HX0 := Lib.hid (Ext.new1 w (.cells (insV xi).toArray 64))
  have hb := hB.keep HX0.out
  have HL := Lib.hid hl
  have HF := Lib.hid (fun w => nfInsRightAny xi N G hl hG w)
  obtain ⟨z, hz⟩ : ∃ z, rightI xi N G = z := ⟨_, rfl⟩
  rw [hz] at HF ⊢
  clear hl hB hz
  unfold insV at HX0 hb HF ⊢
  have b0 := hb.cell 0
  have b1 := hb.cell 1
  clear hb
  go_enter Tryd.func47, Tryd.ntmps47
  go_wp2_with (go_at_call 48; refine (HF.out _).mono ?_; rintro e w1 ⟨rfl, hx1⟩)
  go_ret
  exact ⟨rfl, Ext.trans HX0.out hx1⟩

def IdxR (w : World) (R : Bool) (e : Ending) (w' : World) : Prop := Ext w w' ∧ ∃ r : Int, e = .returned (.int .i64 r) ∧ ((R = true ∧ r = -1) ∨ (R = false ∧ 0 ≤ r))
set_option maxHeartbeats 4000000 in
set_option maxRecDepth 20000 in
theorem nfIndexAny (c : List Ins) (N G : Nat) (hN : c.length = N) (hl : N ≤ 1000) (hG : G ≤ 9) (A : Option Addr) (cc gp : Nat) (R : Bool) (hR : c.all (fun i => rightI i N G) = R) (w : World) (hB : Blk w gp 32 [.slice A N cc, .int .i64 (G : Nat)]) (hr : Rd w 8 A N (codeV c)) :
    Calls Tryd.prog 72 #[.slice A N cc, .func (.func 47) #[] #[.pointer (some ⟨gp, 0, none⟩)]] w fun e w' => IdxR w R e w' := by
  have HR := Lib.hid hr
  have HRR := Lib.hid hR
  have HB := Lib.hid hB
  have HL := Lib.hid hl
  have HN := Lib.hid hN
  clear hr hB hl hN hR
  go_enter Tryd.func72, Tryd.ntmps72
  go_wp2
  go_loopg [8] N (fun g a wr => ∃ j : Nat, j ≤ N ∧ g = N - j ∧ a = .int .i64 (j : Nat) ∧ Hid ((c.take j).all (fun i => rightI i N G) = true) ∧ Ext w wr)
  case atStart => exact ⟨0, by omega, rfl, rfl, Lib.hid rfl, Ext.refl _⟩
  case round =>
    obtain ⟨j, hj, rfl, rfl, HT, hx⟩ := hrel
    by_cases hlt : j < N
    · obtain ⟨xi, hxi⟩ : ∃ xi, c[j]? = some xi := ⟨_, List.getElem?_eq_getElem (by have := HN.out; omega)⟩
      obtain ⟨bA, oA, rfl, hcell⟩ := code_cellsN (c := c) (by rw [HN.out]; exact HR.out.keep hx) hxi
      have c0 : wr.cell? ⟨bA, oA + j * 8, none⟩ = some (.int .i64 xi.op) := hcell 0 _ rfl
      have c1 : wr.cell? ⟨bA, oA + j * 8 + 1, none⟩ = some (.int .i64 xi.x) := hcell 1 _ rfl
      have c2 : wr.cell? ⟨bA, oA + j * 8 + 2, none⟩ = some (.int .i64 xi.y) := hcell 2 _ rfl
      have c3 : wr.cell? ⟨bA, oA + j * 8 + 3, none⟩ = some (.int .i64 xi.n) := hcell 3 _ rfl
      have c4 : wr.cell? ⟨bA, oA + j * 8 + 4, none⟩ = some (.int .u64 (wd xi.set 0 : Nat)) := hcell 4 _ rfl
      have c5 : wr.cell? ⟨bA, oA + j * 8 + 5, none⟩ = some (.int .u64 (wd xi.set 1 : Nat)) := hcell 5 _ rfl
      have c6 : wr.cell? ⟨bA, oA + j * 8 + 6, none⟩ = some (.int .u64 (wd xi.set 2 : Nat)) := hcell 6 _ rfl
      have c7 : wr.cell? ⟨bA, oA + j * 8 + 7, none⟩ = some (.int .u64 (wd xi.set 3 : Nat)) := hcell 7 _ rfl
      have hlt' : (j : Int) < (N : Int) := by omega
      have hw2 : IntKind.i64.wrap ((j : Int) + 1) = (j : Int) + 1 := wrap_id (by omega) (by have := HL.out; have := HN.out; omega)
      have HX := Lib.hid hx
      have HXI := Lib.hid hxi
      have HLT := Lib.hid hlt
      have HF := Lib.hid (fun w hb => nfRightFnAny N G HL.out hG (some ⟨bA, oA, none⟩) cc gp xi w hb)
      obtain ⟨z, hz⟩ : ∃ z, rightI xi N G = z := ⟨_, rfl⟩
      have HZ := Lib.hid hz
      rw [hz] at HF
      clear hcell hxi hx hz hj hlt
      cases z
      · go_wp2_with (go_at_call 47; refine (HF.out _ (HB.out.keep HX.out)).mono ?_; rintro e w1 ⟨rfl, hx1⟩; rw [Bool.not_false])
        go_ret
        refine ⟨Ext.trans HX.out hx1, (j : Int), rfl, .inr ⟨?_, by omega⟩⟩
        rw [← HRR.out]
        refine Bool.eq_false_iff.2 fun e => ?_
        have := List.all_eq_true.1 e xi (List.mem_of_getElem? HXI.out)
        rw [HZ.out] at this
        cases this
      · go_wp2_with (go_at_call 47; refine (HF.out _ (HB.out.keep HX.out)).mono ?_; rintro e w1 ⟨rfl, hx1⟩; rw [Bool.not_true])
        go_roundg (N - (j + 1))
        case measure => have := HLT.out; omega
        case rel => exact ⟨j + 1, by have := HLT.out; omega, rfl, by go_num, Lib.hid (by rw [List.take_add_one, List.all_append, HT.out, HXI.out]; simp [HZ.out]), Ext.trans HX.out hx1⟩
    · obtain rfl : j = N := by omega
      have hlt' : ¬ (j : Int) < (j : Int) := by omega
      have HX := Lib.hid hx
      clear hx hj hlt
      go_wp2
      go_ret
      refine ⟨HX.out, -1, rfl, .inl ⟨?_, rfl⟩⟩
      rw [← HRR.out]
      have := HT.out
      rwa [List.take_of_length_le (by rw [HN.out]; exact Nat.le_refl _)] at this

set_option maxHeartbeats 4000000 in
theorem nfContainsAny (c : List Ins) (N G : Nat) (hN : c.length = N) (hl : N ≤ 1000) (hG : G ≤ 9) (A : Option Addr) (cc gp : Nat) (R : Bool) (hR : c.all (fun i => rightI i N G) = R) (w : World) (hB : Blk w gp 32 [.slice A N cc, .int .i64 (G : Nat)]) (hr : Rd w 8 A N (codeV c)) :
    Calls Tryd.prog 46 #[.slice A N cc, .func (.func 47) #[] #[.pointer (some ⟨gp, 0, none⟩)]] w fun e w' => e = .returned (.bool (!R)) ∧ Ext w w' := by
  have H := Lib.hid (nfIndexAny c N G hN hl hG A cc gp R hR w hB hr)
  clear hB hR hr hl hG hN
  go_enter Tryd.func46, Tryd.ntmps46
  go_upto_region 1 with fail
  go_wp2_with fail
  go_at_call 72
  refine H.out.mono ?_
  rintro e w1 ⟨hx1, r, rfl, ⟨rfl, rfl⟩ | ⟨rfl, hr⟩⟩
  · go_wp2
    go_ret
    exact ⟨rfl, hx1⟩
  · have hq : ¬ r < 0 := by omega
    go_wp2
    go_ret
    exact ⟨rfl, hx1⟩

def lastB (c : List Ins) : Bool := match c[c.length - 1]? with | none => false | some i => i.op == 5 || i.op == 2
def rightB (c : List Ins) (G : Int) : Bool := decide (1 ≤ c.length) && (decide (c.length ≤ 400) && (decide (0 ≤ G) && (decide (G ≤ 9) && (lastB c && c.all (fun i => rightI i c.length G.toNat)))))
set_option maxHeartbeats 4000000 in
set_option maxRecDepth 20000 in
theorem nfRightAny (c : List Ins) (N : Nat) (hN : c.length = N) (hl : N ≤ 100000) (G : Int) (A : Option Addr) (cc : Nat) (w : World) (hR : Rd w 8 A N (codeV c)) :
    Calls Tryd.prog 16 #[.agg #[.slice A N cc, .int .i64 G]] w fun e w' => e = .returned (.bool (rightB c G)) ∧ Ext w w' := by
  have hx0 := Ext.new1 w (.cells #[.slice A N cc, .int .i64 G] 32)
  have HX := Lib.hid hx0
  obtain ⟨gp, hgp⟩ : ∃ gp, w.heap.size = gp := ⟨_, rfl⟩
  have HB := Lib.hid (Blk.newA (w := w) hgp 32 [.slice A N cc, .int .i64 G])
  have HR := Lib.hid (hR.keep hx0)
  have HGP := Lib.hid hgp
  have HN := Lib.hid hN
  obtain ⟨V, hV⟩ : ∃ V, rightB c G = V := ⟨_, rfl⟩
  rw [hV]
  unfold rightB at hV
  rw [hN] at hV
  have b0 := HB.out.cell 0
  have b1 := HB.out.cell 1
  clear hR hx0 hgp hN
  by_cases h0 : N = 0
  · subst h0
    obtain rfl : V = false := by rw [← hV]; rfl
    clear hV hl
    go_enter Tryd.func16, Tryd.ntmps16
    go_upto_region 1 with fail
    rw [HGP.out]
    generalize w.alloc (.cells _ 32) = wa at *
    go_wp2
    go_ret
    exact ⟨rfl, HX.out⟩
  have l1 : ¬ (N : Int) < 1 := by omega
  rw [decide_eq_true (show 1 ≤ N by omega), Bool.true_and] at hV
  by_cases h4 : N ≤ 400
  rotate_left
  · have l2 : (400 : Int) < (N : Int) := by omega
    obtain rfl : V = false := by rw [← hV, decide_eq_false h4]; rfl
    clear hV h0 h4 hl
    go_enter Tryd.func16, Tryd.ntmps16
    go_upto_region 1 with fail
    rw [HGP.out]
    generalize w.alloc (.cells _ 32) = wa at *
    go_wp2
    go_ret
    exact ⟨rfl, HX.out⟩
  have l2 : ¬ (400 : Int) < (N : Int) := by omega
  rw [decide_eq_true h4, Bool.true_and] at hV
  by_cases hg0 : 0 ≤ G
  rotate_left
  · have l3 : G < 0 := by omega
    obtain rfl : V = false := by rw [← hV, decide_eq_false hg0]; rfl
    clear hV h0 h4 hg0 hl
    go_enter Tryd.func16, Tryd.ntmps16
    go_upto_region 1 with fail
    rw [HGP.out]
    generalize w.alloc (.cells _ 32) = wa at *
    go_wp2
    go_ret
    exact ⟨rfl, HX.out⟩
  have l3 : ¬ G < 0 := by omega
  rw [decide_eq_true hg0, Bool.true_and] at hV
  by_cases hg9 : G ≤ 9
  rotate_left
  · have l4 : (9 : Int) < G := by omega
    obtain rfl : V = false := by rw [← hV, decide_eq_false hg9]; rfl
    clear hV h0 h4 hg0 hg9 hl
    go_enter Tryd.func16, Tryd.ntmps16
    go_upto_region 1 with fail
    rw [HGP.out]
    generalize w.alloc (.cells _ 32) = wa at *
    go_wp2
    go_ret
    exact ⟨rfl, HX.out⟩
  have l4 : ¬ (9 : Int) < G := by omega
  rw [decide_eq_true hg9, Bool.true_and] at hV
  obtain ⟨xi, hxi⟩ : ∃ xi, c[c.length - 1]? = some xi := ⟨_, List.getElem?_eq_getElem (by have := HN.out; omega)⟩
  have hlb : lastB c = (xi.op == 5 || xi.op == 2) := by unfold lastB; rw [hxi]
  rw [hlb] at hV
  obtain ⟨bA, oA, hA, hcell⟩ := code_cellsN (c := c) (by rw [HN.out]; exact HR.out) hxi
  subst hA
  obtain ⟨L, hL⟩ : ∃ L, N - 1 = L := ⟨_, rfl⟩
  have c0 : (w.alloc (.cells #[.slice (some ⟨bA, oA, none⟩) N cc, .int .i64 G] 32)).cell? ⟨bA, oA + L * 8, none⟩ = some (.int .i64 xi.op) := by
    have := hcell 0 _ rfl
    rwa [HN.out, hL] at this
  have l5 : (L : Int) < (N : Int) := by omega
  have hw : IntKind.i64.wrap ((N : Int) - 1) = (L : Int) := by rw [show (N : Int) - 1 = L by omega]; exact wrap_id (by omega) (by omega)
  clear hcell hxi hlb hL h0
  by_cases h5 : xi.op = 5 ∨ xi.op = 2
  rotate_left
  · have n5 : (xi.op == 5) = false := beq_eq_false_iff_ne.2 (by omega)
    have n2 : (xi.op == 2) = false := beq_eq_false_iff_ne.2 (by omega)
    have n5' : (xi.op != 5) = true := by simpa using n5
    have n2' : (xi.op != 2) = true := by simpa using n2
    obtain rfl : V = false := by rw [← hV, n5, n2]; rfl
    clear hV n5 n2 h5 h4 hg0 hg9 hl
    go_enter Tryd.func16, Tryd.ntmps16
    go_upto_region 1 with fail
    rw [HGP.out]
    generalize w.alloc (.cells _ 32) = wa at *
    go_wp2
    go_ret
    exact ⟨rfl, HX.out⟩
  have hV2 : c.all (fun i => rightI i N G.toNat) = V := by
    rw [← hV]
    rcases h5 with h | h <;> rw [h] <;> simp
  obtain ⟨g, hg⟩ : ∃ g : Nat, G = g := ⟨G.toNat, by omega⟩
  subst hg
  rw [Int.toNat_natCast] at hV2
  have HV := Lib.hid hV2
  have HM := Lib.hid (show N ≤ 1000 ∧ g ≤ 9 by omega)
  clear hV hV2 h4 hg0 hg9 hl
  rcases h5 with h | h
  all_goals
    rw [h] at c0
    clear h
    go_enter Tryd.func16, Tryd.ntmps16
    go_upto_region 1 with fail
    rw [HGP.out]
    generalize w.alloc (.cells _ 32) = wa at *
    go_wp2_with (go_at_call 46; refine (nfContainsAny c N g HN.out HM.out.1 HM.out.2 _ cc gp V HV.out wa HB.out HR.out).mono ?_; rintro e w1 ⟨rfl, hx1⟩)
    go_ret
    exact ⟨by simp, Ext.trans HX.out hx1⟩
end Go.Proofs.YtdhmfgaiomfodaaDoor
namespace Go.Proofs.YtdhmfgaiomfodaaDoor
open Go Go.RowKit
attribute [local irreducible] wd

theorem isAgg3 (w : World) : (isAgg 3).run Tryd.prog w = .ok false w := by
  simp [isAgg, run_underlying Tryd.underlying3]
theorem isAggS (w : World) : (isAgg 45).run Tryd.prog w = .ok true w := by
  simp [isAgg, run_underlying Tryd.underlying45]
theorem sizeS (w : World) : (sizeOf 45).run Tryd.prog w = .ok 256 w := by
  have h := set_size
  unfold sizeOf typeInfo
  cases hq : Tryd.prog.info? 45 with
  | none => rw [hq] at h; cases h
  | some i =>
    rw [hq] at h
    have hs : i.size = 256 := by simpa using h
    simp [hq, hs]
theorem part_int {i : Ins} {j : Nat} {x : Int} (h : (diC i)[j]? = some (.int .i64 x)) (w : World) : (part 3 (diC i).toArray j).run Tryd.prog w = .ok (.int .i64 x) w := by
  unfold part
  rw [Sem.run_bind, isAgg3]
  simp [h]
theorem part_set (i : Ins) (w : World) : (part 45 (diC i).toArray 4).run Tryd.prog w = .ok (.agg (bcs i.set)) w := by
  unfold part
  rw [Sem.run_bind, isAggS]
  simp only [Result.andThen_ok, if_true, Sem.run_bind, sizeS, Sem.run_pure]
  congr 2
  apply Array.ext_getElem?
  intro j
  rw [Array.getElem?_extract]
  have hs : (diC i).toArray.size = 260 := by rw [List.size_toArray, di_len]
  by_cases hj : j < 256
  · rw [if_pos (by rw [hs]; omega), List.getElem?_toArray, di_set i hj, bcs_get i.set hj]
  · rw [if_neg (by rw [hs]; omega), bcs_out i.set hj]
set_option maxRecDepth 20000 in
theorem eq_set9 (p q : Nat → Bool) (w : World) : (Op.equalIn 9999 45 (.agg (bcs p)) (.agg (bcs q))).run Tryd.prog w = .ok (sameP p q) w :=
  run_equalIn_arr 9998 _ _ 256 _ _ (fun i => .bool (p i)) (fun i => .bool (q i)) (fun i => p i == q i) Tryd.underlying45 (by kernel_rfl) (fun w => by kernel_rfl) (fun i hi => bcs_get p hi) (fun i hi => bcs_get q hi)
    (fun i _ w => run_equalIn_bool w 9997 _ _ _ Tryd.underlying4) w
set_option maxRecDepth 20000 in
theorem diEq (x y : Ins) (w : World) : (Op.equalIn 10000 47 (.agg (diC x).toArray) (.agg (diC y).toArray)).run Tryd.prog w = .ok (insEqB x y) w := by
  have hf : (Tryd.prog.fieldsOf 47).toList.map (fun f => (f.name, f.type, f.offset)) = [("Op", 3, 0), ("X", 3, 1), ("Y", 3, 2), ("N", 3, 3), ("Set", 45, 4)] := by kernel_rfl
  rw [run_equalIn_struct w 9999 47 _ _ Tryd.underlying47 (by kernel_rfl)]
  generalize (Tryd.prog.fieldsOf 47).toList = fs at hf
  obtain ⟨f1, fs, rfl, h1, hf⟩ := List.map_eq_cons_iff.1 hf
  obtain ⟨f2, fs, rfl, h2, hf⟩ := List.map_eq_cons_iff.1 hf
  obtain ⟨f3, fs, rfl, h3, hf⟩ := List.map_eq_cons_iff.1 hf
  obtain ⟨f4, fs, rfl, h4, hf⟩ := List.map_eq_cons_iff.1 hf
  obtain ⟨f5, fs, rfl, h5, hf⟩ := List.map_eq_cons_iff.1 hf
  obtain rfl := List.map_eq_nil_iff.1 hf
  simp only [Prod.mk.injEq] at h1 h2 h3 h4 h5
  obtain ⟨a1, b1, c1⟩ := h1
  obtain ⟨a2, b2, c2⟩ := h2
  obtain ⟨a3, b3, c3⟩ := h3
  obtain ⟨a4, b4, c4⟩ := h4
  obtain ⟨a5, b5, c5⟩ := h5
  simp only [Op.eqFields, a1, b1, c1, a2, b2, c2, a3, b3, c3, a4, b4, c4, a5, b5, c5]
  simp only [show ("Op" ≠ "_") = True by decide +kernel, show ("X" ≠ "_") = True by decide +kernel, show ("Y" ≠ "_") = True by decide +kernel, show ("N" ≠ "_") = True by decide +kernel, show ("Set" ≠ "_") = True by decide +kernel, if_true, Sem.run_bind, part_int (di_0 x), part_int (di_0 y), part_int (di_1 x), part_int (di_1 y), part_int (di_2 x), part_int (di_2 y), part_int (di_3 x), part_int (di_3 y), part_set, Result.andThen_ok, run_equalIn_int _ _ 3 _ _ _ _ Tryd.underlying3, Sem.run_ite, Sem.run_pure, eq_set9]
  unfold insEqB
  cases (x.op == y.op) <;> cases (x.x == y.x) <;> cases (x.y == y.y) <;> cases (x.n == y.n) <;> cases (sameP x.set y.set) <;> rfl

/-! ### Stores into one -/
theorem Blk.setCells {g : Nat} {e : TypeId} : ∀ (vs : List Value) (o : Nat) (w : World) (cs : List Value), Blk w g e cs → o + vs.length ≤ cs.length → Blk (w.setCells g o vs) g e (cs.take o ++ vs ++ cs.drop (o + vs.length)) := by
  intro vs
  induction vs with
  | nil => intro o w cs h hl; simpa [World.setCells] using h
  | cons v r ih =>
    intro o w cs h hl
    have h1 := h.set_ o v
    simp only [List.length_cons] at hl
    have h2 := ih (o + 1) _ _ h1 (by rw [List.length_set]; omega)
    unfold World.setCells
    have e : ((cs.set o v).take (o + 1) ++ r ++ (cs.set o v).drop (o + 1 + r.length)) = cs.take o ++ (v :: r) ++ cs.drop (o + (v :: r).length) := by
      rw [List.take_add_one, List.take_set_of_le (Nat.le_refl o), List.getElem?_set_self (by omega), List.drop_set_of_lt (by omega)]
      simp [List.append_assoc, show o + 1 + r.length = o + (r.length + 1) by omega]
    rw [e] at h2
    exact h2
theorem IB.setS {w : World} {g : Nat} {i : Ins} (h : IB w g i) (q : Nat → Bool) : IB (w.setCells g 4 (bcs q).toList) g { i with set := q } := by
  have hs := bcs_size q
  have h1 := Blk.setCells (bcs q).toList 4 w (diC i) h (by rw [Array.length_toList, hs, di_len]; omega)
  have e : ((diC i).take 4 ++ (bcs q).toList ++ (diC i).drop (4 + (bcs q).toList.length)) = diC { i with set := q } := by
    apply List.ext_getElem?
    intro j
    rw [List.drop_of_length_le (by rw [di_len, Array.length_toList, hs]; omega), List.append_nil]
    by_cases h4 : j < 4
    · rw [List.getElem?_append_left (by rw [List.length_take, di_len]; omega), List.getElem?_take, if_pos h4, di_at, di_at]
      by_cases h0 : j = 0
      · rw [if_pos h0, if_pos h0]
      by_cases h1 : j = 1
      · rw [if_neg h0, if_neg h0, if_pos h1, if_pos h1]
      by_cases h2 : j = 2
      · rw [if_neg h0, if_neg h0, if_neg h1, if_neg h1, if_pos h2, if_pos h2]
      rw [if_neg h0, if_neg h0, if_neg h1, if_neg h1, if_neg h2, if_neg h2, if_pos (by omega), if_pos (by omega)]
    · rw [List.getElem?_append_right (by rw [List.length_take, di_len]; omega), List.length_take, di_len, show min 4 260 = 4 from rfl, di_at, if_neg (by omega), if_neg (by omega), if_neg (by omega), if_neg (by omega), Array.getElem?_toList]
      by_cases h260 : j < 260
      · rw [if_pos h260, bcs_get q (by omega)]
      · rw [if_neg h260, bcs_out q (by omega)]
  rw [e] at h1
  exact h1
theorem IB.setF {w : World} {g : Nat} {i i' : Ins} {k : Nat} {v : Int} (h : IB w g i) (e : (diC i).set k (.int .i64 v) = diC i') : IB (w.setCell ⟨g, k, none⟩ (.int .i64 v)) g i' := by
  have := Blk.set_ h k (.int .i64 v)
  rw [e] at this
  exact this
theorem di_set1 (i : Ins) (v : Int) : (diC i).set 1 (.int .i64 v) = diC { i with x := v } := by
  apply List.ext_getElem?
  intro j
  rw [List.getElem?_set, di_at, di_at, di_len]
  by_cases h : 1 = j
  · subst h; simp
  · rw [if_neg h, if_neg (show ¬ j = 1 by omega), if_neg (show ¬ j = 1 by omega)]
theorem di_set2 (i : Ins) (v : Int) : (diC i).set 2 (.int .i64 v) = diC { i with y := v } := by
  apply List.ext_getElem?
  intro j
  rw [List.getElem?_set, di_at, di_at, di_len]
  by_cases h : 2 = j
  · subst h; simp
  · rw [if_neg h, if_neg (show ¬ j = 2 by omega), if_neg (show ¬ j = 2 by omega)]
theorem di_set3 (i : Ins) (v : Int) : (diC i).set 3 (.int .i64 v) = diC { i with n := v } := by
  apply List.ext_getElem?
  intro j
  rw [List.getElem?_set, di_at, di_at, di_len]
  by_cases h : 3 = j
  · subst h; simp
  · rw [if_neg h, if_neg (show ¬ j = 3 by omega), if_neg (show ¬ j = 3 by omega)]
end Go.Proofs.YtdhmfgaiomfodaaDoor
namespace Go.Proofs.YtdhmfgaiomfodaaDoor
open Go.RowKit

section
variable {P : Program} {ops : List Oper} {Q : Exit → Act → World → Prop} {E : World → World → Prop} {w0 : World} {Φ : Nat → Value → World → Prop} {a0 : Act} {N : Nat}
theorem oper_mono {o : Oper} {a : Act} {w : World} {K K' : Act → World → Prop} (hK : ∀ a' w', K a' w' → K' a' w') (h : Oper.wp P o a w K (Exit.then K Q)) : Oper.wp P o a w K' Q := by
  unfold Oper.wp at *
  generalize (execOp a.eval o).run P w = r at *
  cases r with
  | ok x w' =>
    cases x <;> simp only [Oper.upon] at h ⊢ <;>
      first
        | exact hK _ _ h
        | exact Calls.mono h (fun e w'' he => by
            cases e with
            | returned v => exact hK _ _ he
            | panicked ch => exact he
            | outgrown => obtain ⟨x, y, hq⟩ := he; exact ⟨x, y, hq⟩)
        | exact Rows.mono h (fun _ _ he => hK _ _ he)
  | halt x w' => cases x <;> simp only [Oper.upon] at h ⊢ <;> exact h

theorem dag_list (hok : dagOk N ops = true) (hN : a0.tmps.size = N) (hst : ∀ i v w w', Φ i v w → E w w' → Φ i v w') (htr : ∀ w w', E w0 w → E w w' → E w0 w')
    (hone : allOps P ops Q E w0 Φ a0 0 ops)
    (hend : ∀ a w, E w0 w → a.tmps.size = a0.tmps.size → a.defers = a0.defers → (∀ i o, ops[i]? = some o → ∃ v, Φ i v w ∧ ∀ d, o.dst = some d → a.tmps[d]? = some v) →
      (∀ t, writerOf ops t = none → a.tmps[t]? = a0.tmps[t]?) → Q .normal a w) :
    ∀ (r : List Oper) (k : Nat), (∀ j, r[j]? = ops[k + j]?) → ∀ (L : Array Bool) (a : Act) (w : World), DagInv ops E w0 Φ a0 L a w → (∀ j, j < ops.length → (L[j]? = some true ↔ j < k)) → wpList P ops.toArray Q r a w := by
  intro r
  induction r with
  | nil =>
    intro k hr L a w hI hL
    have hk : ops.length ≤ k := by
      have := hr 0
      simp at this
      exact this
    exact hend a w hI.ext hI.size hI.defers (fun i o ho => by
      have hi := (List.getElem?_eq_some_iff.1 ho).1
      obtain ⟨v, hv, hd⟩ := hI.done i o ho ((hL i hi).2 (by omega))
      exact ⟨v, hv, fun d hod => hd d hod (by rw [hN]; exact ((dagOk_at hok ho).2.1 d hod).2)⟩) fun t ht => hI.rest t fun i o ho _ => writerOf_none ht i o ho
  | cons o r ih =>
    intro k hr L a w hI hL
    have ho : ops[k]? = some o := by have := hr 0; simpa using this.symm
    have hk := (List.getElem?_eq_some_iff.1 ho).1
    have hf : L[k]? = some false := by
      have hlt : k < L.size := by rw [hI.len]; exact hk
      cases hb : L[k]? with
      | none => rw [Array.getElem?_eq_none_iff] at hb; omega
      | some b =>
        cases b with
        | false => rfl
        | true => exact absurd ((hL k hk).1 hb) (by omega)
    have hshut : ∀ j, hangsOn o j = true → L[j]? = some true := fun j hj => by
      have := (dagOk_at hok ho).1 j hj
      exact (hL j (by omega)).2 this
    have h1 := allOps_get ops 0 hone k o ho
    rw [Nat.zero_add] at h1
    have h4 := h1 a w hI.ext hI.size hI.defers (dag_looks hok hN hI ho hf hshut)
    have hK : ∀ v w', Φ k v w' → E w w' → wpList P ops.toArray Q r (a.put o.dst v) w' := fun v w' hv hE =>
      ih (k + 1) (fun j => by have := hr (j + 1); rw [show k + (j + 1) = k + 1 + j by omega] at this; simpa using this) (L.setIfInBounds k true) _ _ (dag_step hok hst htr hI ho hshut hv hE) (fun j hj => by
        rw [Array.getElem?_setIfInBounds]
        by_cases hjk : k = j
        · subst hjk
          simp [hI.len, hk]
        · rw [if_neg hjk, hL j hj]
          omega)
    simp only [wpList] at h4 ⊢
    split
    · rename_i hw
      rw [if_pos hw] at h4
      rcases h4 with h4 | ⟨h4, x, y, hq⟩
      · exact .inl (oper_mono (fun a' w' ⟨v, e, hv, hE⟩ => by rw [e]; exact hK v w' hv hE) h4)
      · exact .inr ⟨h4, x, y, hq⟩
    · rename_i hw
      rw [if_neg hw] at h4
      obtain ⟨v, e, hv, hE⟩ := h4
      rw [e]
      exact hK v w hv hE

theorem wp_region_dag0 {id : Nat} (N : Nat) (hN : a0.tmps.size = N) (hok : dagOk N ops = true) {w : World}
    (hst : ∀ i v w w', Φ i v w → E w w' → Φ i v w') (hrf : E w0 w) (htr : ∀ w w', E w0 w → E w w' → E w0 w')
    (hone : allOps P ops Q E w0 Φ a0 0 ops)
    (hend : ∀ a w, E w0 w → a.tmps.size = a0.tmps.size → a.defers = a0.defers → (∀ i o, ops[i]? = some o → ∃ v, Φ i v w ∧ ∀ d, o.dst = some d → a.tmps[d]? = some v) →
      (∀ t, writerOf ops t = none → a.tmps[t]? = a0.tmps[t]?) → Q .normal a w) :
    (Code.region id ops.toArray false).wp P Q a0 w := by
  refine wp_region ?_
  rw [show ops.toArray.size = ops.length by simp, List.range_eq_range', wpOps_eq_wpList ops 0 (by simp)]
  exact dag_list hok hN hst htr hone hend ops 0 (by simp) (Array.replicate ops.length false) a0 w ⟨hrf, rfl, rfl, by simp, fun i o ho h => by simp [Array.getElem?_replicate] at h, fun t _ => rfl, fun i o ho h => by simp [Array.getElem?_replicate] at h⟩ (fun j hj => by simp [hj])
end

theorem wp_load_val {P : Program} {op : Oper} {a : Act} {w : World} {K : Act → World → Prop} {Q : Exit → Act → World → Prop} (ty : TypeId) (x : Operand) (ho : op.op = .load ty x)
    (p : Addr) (hx : a.eval x = .pointer (some p)) (V : Value) (hl : (Instr.loadAt ty (.pointer (some p))).run P w = .ok V w) (h : K (a.put op.dst V) w) : op.wp P a w K Q := by
  unfold Oper.wp execOp
  simp only [ho, hx, Sem.run_bind, hl, Result.andThen_ok, Sem.run_pure]
  exact h
theorem wpList_load_val {P : Program} {ops : Array Oper} {rest : List Oper} {o : Oper} {a : Act} {w : World} {Q : Exit → Act → World → Prop} (hgd : o.guard = none) (ty : TypeId) (x : Operand) (ho : o.op = .load ty x)
    (p : Addr) (hx : a.eval x = .pointer (some p)) (V : Value) (hl : (Instr.loadAt ty (.pointer (some p))).run P w = .ok V w)
    (h : wpList P ops Q rest (a.put o.dst V) w) : wpList P ops Q (o :: rest) a w :=
  wpList_plain hgd fun _ hK => wp_load_val ty x ho p hx V hl (hK _ _ h)
theorem wpList_skip {P : Program} {ops : Array Oper} {o : Oper} {a : Act} {w : World} {Q : Exit → Act → World → Prop} {j : Nat} {want : Bool} (hg : o.guard = some (j, want)) {d : Tmp} (hd : (ops[j]?).bind (·.dst) = some d) (hv : a.tmps[d]? = some undef)
    (h : Q .normal (a.put o.dst undef) w) : wpList P ops Q [o] a w := by
  have hy : yielded ops a.tmps j = none := by
    unfold yielded
    rw [hd, Option.bind_some, hv]
    rfl
  have hw : Region.wanted o (yielded ops a.tmps) = false := by
    unfold Region.wanted
    rw [hg]
    simp [hy]
  simp only [wpList]
  rw [if_neg (by rw [hw]; exact Bool.false_ne_true)]
  exact h
end Go.Proofs.YtdhmfgaiomfodaaDoor
namespace Go.Proofs.YtdhmfgaiomfodaaDoor
open Go Go.RowKit Go.ChangeShapes Go.WideShapes
set_option linter.constructorNameAsVariable false
set_option maxRecDepth 20000

structure InsW (i : Ins) : Prop where
  op : -9223372036854775808 ≤ i.op ∧ i.op ≤ 9223372036854775807
  x : -9223372036854775808 ≤ i.x ∧ i.x ≤ 9223372036854775807
  y : -9223372036854775808 ≤ i.y ∧ i.y ≤ 9223372036854775807
  n : -9223372036854775808 ≤ i.n ∧ i.n ≤ 9223372036854775807
  set : ∀ j, 256 ≤ j → i.set j = false

theorem open_insC {H : Type} {enc : TypeId × Value → H} {W : World} {b0 : Nat} {spare : Nat → Bool} {held : Bool} {fuel : Nat} {cs : List Value} {x : DataW H × List MemPlace}
    (h : DataW.trod enc Tryd.prog W b0 spare held fuel 64 cs = some x) : ∃ i : Ins, InsW i ∧ cs = insV i := by
  obtain ⟨xs, n, hfu, rfl, hl, hlen, hf⟩ := DataW.trod_struct Tryd.underlying64 h
  have hcell : Tryd.prog.cellsOf 64 = 8 := by kernel_rfl
  have ci : Tryd.prog.cellsOf 3 = 1 := by kernel_rfl
  have cset : Tryd.prog.cellsOf 24 = 4 := by kernel_rfl
  rw [hcell] at hl
  obtain ⟨z0, z1, z2, z3, z4, z5, z6, z7, rfl⟩ : ∃ z0 z1 z2 z3 z4 z5 z6 z7, cs = [z0, z1, z2, z3, z4, z5, z6, z7] := by
    match cs, hl with
    | [a, b, c, d, e, f, g, h], _ => exact ⟨a, b, c, d, e, f, g, h, rfl⟩
  match xs, hlen with
  | [y0, y1, y2, y3, y4], _ =>
    have h0 : DataW.trod enc Tryd.prog W b0 spare held n 3 [z0] = some y0 := by
      have h9 : DataW.trod enc Tryd.prog W b0 spare held n 3 (List.take (Tryd.prog.cellsOf 3) (List.drop 0 [z0, z1, z2, z3, z4, z5, z6, z7])) = some y0 := hf 0 _ rfl
      rw [ci] at h9
      exact h9
    have h1 : DataW.trod enc Tryd.prog W b0 spare held n 3 [z1] = some y1 := by
      have h9 : DataW.trod enc Tryd.prog W b0 spare held n 3 (List.take (Tryd.prog.cellsOf 3) (List.drop 1 [z0, z1, z2, z3, z4, z5, z6, z7])) = some y1 := hf 1 _ rfl
      rw [ci] at h9
      exact h9
    have h2 : DataW.trod enc Tryd.prog W b0 spare held n 3 [z2] = some y2 := by
      have h9 : DataW.trod enc Tryd.prog W b0 spare held n 3 (List.take (Tryd.prog.cellsOf 3) (List.drop 2 [z0, z1, z2, z3, z4, z5, z6, z7])) = some y2 := hf 2 _ rfl
      rw [ci] at h9
      exact h9
    have h3 : DataW.trod enc Tryd.prog W b0 spare held n 3 [z3] = some y3 := by
      have h9 : DataW.trod enc Tryd.prog W b0 spare held n 3 (List.take (Tryd.prog.cellsOf 3) (List.drop 3 [z0, z1, z2, z3, z4, z5, z6, z7])) = some y3 := hf 3 _ rfl
      rw [ci] at h9
      exact h9
    have h4 : DataW.trod enc Tryd.prog W b0 spare held n 24 [z4, z5, z6, z7] = some y4 := by
      have h9 : DataW.trod enc Tryd.prog W b0 spare held n 24 (List.take (Tryd.prog.cellsOf 24) (List.drop 4 [z0, z1, z2, z3, z4, z5, z6, z7])) = some y4 := hf 4 _ rfl
      rw [cset] at h9
      exact h9
    obtain ⟨k0, e0, _, s0⟩ := DataW.trod_int Tryd.underlying3 h0
    obtain ⟨k1, e1, _, s1⟩ := DataW.trod_int Tryd.underlying3 h1
    obtain ⟨k2, e2, _, s2⟩ := DataW.trod_int Tryd.underlying3 h2
    obtain ⟨k3, e3, _, s3⟩ := DataW.trod_int Tryd.underlying3 h3
    obtain ⟨p, hp, e4, e5, e6, e7⟩ := open_setC h4
    simp at e0 e1 e2 e3
    have b0 := bounds_i64 s0
    have b1 := bounds_i64 s1
    have b2 := bounds_i64 s2
    have b3 := bounds_i64 s3
    subst e0 e1 e2 e3 e4 e5 e6 e7
    exact ⟨⟨k0, k1, k2, k3, p⟩, ⟨by dsimp only; omega, by dsimp only; omega, by dsimp only; omega, by dsimp only; omega, hp⟩, rfl⟩

theorem open_code {H : Type} {enc : TypeId × Value → H} {W : World} {b0 : Nat} {spare : Nat → Bool} {held : Bool} {fuel : Nat} {v : Value} {x : DataW H × List MemPlace}
    (h4 : DataW.trod enc Tryd.prog W b0 spare held fuel 30 [v] = some x) : ∃ (A : Option Addr) (c : List Ins) (cap : Nat), v = .slice A c.length cap ∧ Rd W 8 A c.length (codeV c) ∧ (∀ i ∈ c, InsW i) ∧ c.length ≤ maxLen := by
  have hcell : Tryd.prog.cellsOf 64 = 8 := by kernel_rfl
  rcases DataW.trod_slice Tryd.underlying30 h4 with ⟨e7, _⟩ | ⟨a, len, cap, elems, rest, n', hn', e7, _, _, hlc, hcm, hel, hall, _⟩
  · simp at e7
    subst e7
    exact ⟨none, [], 0, rfl, Rd.nil, fun i hi => by (cases hi), by unfold maxLen; simp⟩
  · simp at e7
    subst e7
    have hspot : 0 < len → a.spot = none := by
      intro hp
      have h5 := hall 0 hp
      rw [List.getElem?_eq_getElem (by omega)] at h5
      simp only [Option.bind_eq_some_iff] at h5
      obtain ⟨ds, hds, _⟩ := h5
      rw [hcell] at hds
      obtain ⟨_, hl3, hce⟩ := World.cells?_some hds
      have g0 := hce 0 (by omega)
      rw [List.getElem?_eq_getElem (by omega)] at g0
      simpa [Addr.add] using World.cell?_spot g0
    have hk : ∀ q, q ≤ len → ∃ c : List Ins, c.length = q ∧ (∀ i ∈ c, InsW i) ∧ ∀ j u, (codeV c)[j]? = some u → W.cell? ⟨a.block, a.off + j, none⟩ = some u := by
      intro q
      induction q with
      | zero => intro _; exact ⟨[], rfl, fun i hi => by (cases hi), fun j u hu => by simp [codeV] at hu⟩
      | succ q ih2 =>
        intro hq
        obtain ⟨c, hcl, hcw, hkc⟩ := ih2 (by omega)
        have h5 := hall q (by omega)
        rw [List.getElem?_eq_getElem (by omega)] at h5
        simp only [Option.bind_eq_some_iff] at h5
        obtain ⟨ds, hds, hdt⟩ := h5
        obtain ⟨t, ht, rfl⟩ := open_insC hdt
        rw [hcell] at hds
        obtain ⟨_, hl3, hce⟩ := World.cells?_some hds
        have hcl2 := codeV_len c
        refine ⟨c ++ [t], by simp [hcl], fun i hi => ?_, fun j u hu => ?_⟩
        · rcases List.mem_append.1 hi with h | h
          · exact hcw i h
          · rw [List.mem_singleton.1 h]; exact ht
        · rw [codeV_app, codeV_one] at hu
          by_cases hj : j < (codeV c).length
          · rw [List.getElem?_append_left hj] at hu
            exact hkc j u hu
          · rw [List.getElem?_append_right (by omega)] at hu
            have hjl := (List.getElem?_eq_some_iff.1 hu).1
            have g := hce (j - (codeV c).length) (by omega)
            rw [hu] at g
            have hsp := hspot (by omega)
            obtain ⟨ab, ao, asp⟩ := a
            simp at hsp
            subst hsp
            rw [addr_add, addr_add] at g
            rw [add_sub_ao (by rw [hcl2, hcl]) (Nat.le_of_not_lt hj)] at g
            exact g
    obtain ⟨c, hcl, hcw, hkc⟩ := hk len (Nat.le_refl _)
    refine ⟨some a, c, cap, by rw [hcl], ?_, hcw, by omega⟩
    by_cases hz : len = 0
    · subst hz
      obtain rfl : c = [] := List.eq_nil_of_length_eq_zero (by omega)
      exact Rd.nil
    · rw [hcl]
      exact rd_of_kids (hspot (by omega)) (by rw [codeV_len, hcl]) hkc

theorem open_prog {H : Type} {enc : TypeId × Value → H} {W : World} {r : Reach} {b0 base : Nat} {spare : Nat → Bool} {held : Bool} {v : Value} {d : DataW H} {p : List MemPlace}
    (hv : Value.okWide Tryd.prog W r b0 32 v) (h : DataW.Trod enc Tryd.prog W base spare held 32 v d p) : ∃ (A : Option Addr) (c : List Ins) (cap : Nat) (g : Int), v = .agg #[.slice A c.length cap, .int .i64 g] ∧ Rd W 8 A c.length (codeV c) ∧ (∀ i ∈ c, InsW i) ∧ c.length ≤ maxLen ∧ (-9223372036854775808 ≤ g ∧ g ≤ 9223372036854775807) := by
  have hv' : ∃ cs, v = .agg cs := by
    simp only [Value.okWide, Tryd.underlying32] at hv
    obtain ⟨cs, h1, _⟩ := hv
    exact ⟨cs, h1⟩
  obtain ⟨⟨cs⟩, rfl⟩ := hv'
  obtain ⟨fuel, hf0⟩ := h
  have hf1 : DataW.trod enc Tryd.prog W base spare held fuel 32 cs = some (d, p) := by simpa [Value.cells] using hf0
  obtain ⟨xs, n, hfu, _, hl, hlen, hf⟩ := DataW.trod_struct Tryd.underlying32 hf1
  have hcell : Tryd.prog.cellsOf 32 = 2 := by kernel_rfl
  have ci : Tryd.prog.cellsOf 3 = 1 := by kernel_rfl
  have csl : Tryd.prog.cellsOf 30 = 1 := by kernel_rfl
  rw [hcell] at hl
  obtain ⟨z0, z1, rfl⟩ : ∃ z0 z1, cs = [z0, z1] := by
    match cs, hl with
    | [a, b], _ => exact ⟨a, b, rfl⟩
  match xs, hlen with
  | [y0, y1], _ =>
    have h0 : DataW.trod enc Tryd.prog W base spare held n 30 [z0] = some y0 := by
      have h9 : DataW.trod enc Tryd.prog W base spare held n 30 (List.take (Tryd.prog.cellsOf 30) (List.drop 0 [z0, z1])) = some y0 := hf 0 _ rfl
      rw [csl] at h9
      exact h9
    have h1 : DataW.trod enc Tryd.prog W base spare held n 3 [z1] = some y1 := by
      have h9 : DataW.trod enc Tryd.prog W base spare held n 3 (List.take (Tryd.prog.cellsOf 3) (List.drop 1 [z0, z1])) = some y1 := hf 1 _ rfl
      rw [ci] at h9
      exact h9
    obtain ⟨k1, e1, _, s1⟩ := DataW.trod_int Tryd.underlying3 h1
    simp at e1
    subst e1
    obtain ⟨A, c, cap, rfl, hR, hW, hm⟩ := open_code h0
    have b1 := bounds_i64 s1
    exact ⟨A, c, cap, k1, rfl, hR, hW, hm, by omega⟩

end Go.Proofs.YtdhmfgaiomfodaaDoor
