/- Put together: Nf9, Nf10, Nf11, Nf12, Nf13. -/
import Derived.Test.YtmfdnjddggaeaaaDoorNsG
import Derived.Test.YtmfdnjddggaeaaaDoorTgF
import Derived.BigQuiet
import Derived.Deep.LoopGhost
import Derived.Deep.DeepCutAuto
namespace Go.Proofs.YtmfdnjddggaeaaaDoor
open Go Go.RowKit
attribute [local irreducible] wd

def digit (n : Nat) : List UInt8 := [UInt8.ofNat (48 + n)]
set_option maxHeartbeats 2000000 in
set_option maxRecDepth 20000 in
theorem small9 (n : Nat) (hn : n < 4) (w : World) :
    Calls Tryd.prog 105 #[.int .i64 (n : Nat)] w fun e w' => e = .returned (.string ⟨(digit n).toArray⟩) ∧ w' = w := by
  have h4 : n = 0 ∨ n = 1 ∨ n = 2 ∨ n = 3 := by omega
  clear hn
  rcases h4 with rfl | rfl | rfl | rfl
  all_goals
    go_enter Tryd.func105, Tryd.ntmps105
    go_wp2
    go_ret
    exact ⟨rfl, rfl⟩
set_option maxHeartbeats 2000000 in
set_option maxRecDepth 20000 in
theorem format9 (n : Nat) (hn : n < 4) (w : World) :
    Calls Tryd.prog 96 #[.int .i64 (n : Nat), .int .i64 10] w fun e w' => e = .returned (.string ⟨(digit n).toArray⟩) ∧ w' = w := by
  have H := Lib.hid (small9 n hn w)
  have h0 : (0 : Int) ≤ (n : Int) := by omega
  have h1 : (n : Int) < 100 := by omega
  clear hn
  go_enter Tryd.func96, Tryd.ntmps96
  go_wp2_with (go_at_call 105; refine H.out.mono ?_; rintro e wh ⟨rfl, hwh⟩; obtain rfl : w = wh := hwh.symm)
  go_ret
  exact ⟨rfl, rfl⟩
theorem itoaI9 (n : Nat) (hn : n < 4) (w : World) :
    Calls Tryd.prog 83 #[.int .i64 (n : Nat)] w fun e w' => e = .returned (.string ⟨(digit n).toArray⟩) ∧ w' = w := by
  have H := Lib.hid (format9 n hn w)
  clear hn
  go_enter Tryd.func83, Tryd.ntmps83
  go_wp2_with (go_at_call 96; refine H.out.mono ?_; rintro e wh ⟨rfl, hwh⟩; obtain rfl : w = wh := hwh.symm)
  go_ret
  exact ⟨rfl, rfl⟩
theorem itoa9 (n : Nat) (hn : n < 4) (w : World) :
    Calls Tryd.prog 62 #[.int .i64 (n : Nat)] w fun e w' => e = .returned (.string ⟨(digit n).toArray⟩) ∧ w' = w := by
  have H := Lib.hid (itoaI9 n hn w)
  clear hn
  go_enter Tryd.func62, Tryd.ntmps62
  go_wp2_with (go_at_call 83; refine H.out.mono ?_; rintro e wh ⟨rfl, hwh⟩; obtain rfl : w = wh := hwh.symm)
  go_ret
  exact ⟨rfl, rfl⟩

/-- An instruction's line. -/
def LineOf (i : Ins) (l : List UInt8) : Prop := ∀ w : World, Tab w → Calls Tryd.prog 63 #[.agg (insV i).toArray] w fun e w' => e = .returned (.string ⟨l.toArray⟩) ∧ Ext w w'
set_option maxHeartbeats 2000000 in
set_option maxRecDepth 20000 in
theorem line_match (p : Nat → Bool) : LineOf ⟨5, 0, 0, 0, p⟩ [109, 97, 116, 99, 104] := by
  intro w _
  have HX := Lib.hid (Ext.new1 w (.cells (insV ⟨5, 0, 0, 0, p⟩).toArray 55))
  unfold insV at HX ⊢
  go_enter Tryd.func63, Tryd.ntmps63
  go_wp2
  go_ret
  exact ⟨rfl, HX.out⟩
set_option maxHeartbeats 2000000 in
set_option maxRecDepth 20000 in
theorem line_jump (x : Nat) (hx : x < 4) (p : Nat → Bool) : LineOf ⟨2, (x : Nat), 0, 0, p⟩ ([106, 117, 109, 112, 32] ++ digit x) := by
  intro w _
  have HX := Lib.hid (Ext.new1 w (.cells (insV ⟨2, (x : Nat), 0, 0, p⟩).toArray 55))
  obtain ⟨D, hD⟩ : ∃ D, digit x = D := ⟨_, rfl⟩
  have HI := Lib.hid (fun w => itoa9 x hx w)
  have hl : D.length = 1 := by rw [← hD]; rfl
  have hm : ¬ 9223372036854775807 < 5 + D.length := by omega
  have hm2 : ¬ 9223372036854775807 < D.length + 5 := by omega
  rw [hD] at HI ⊢
  clear hx hD hl
  unfold insV at HX ⊢
  go_enter Tryd.func63, Tryd.ntmps63
  go_wp2_with (go_at_call 62; refine (HI.out _).mono ?_; rintro e wh ⟨rfl, hwh⟩; subst hwh)
  go_ret
  exact ⟨rfl, HX.out⟩
theorem itoaQ (n : Nat) (hn : n < 4) (w : World) :
    Calls Tryd.prog 62 #[.int .i64 (n : Nat)] w fun e w' => e = .returned (.string ⟨(digit n).toArray⟩) ∧ ∃ m, w' = w.drewN m := (itoa9 n hn w).mono fun _ _ h => ⟨h.1, 0, h.2⟩
set_option maxHeartbeats 2000000 in
set_option maxRecDepth 20000 in
theorem line_split (x y : Nat) (hx : x < 4) (hy : y < 4) (p : Nat → Bool) : LineOf ⟨3, (x : Nat), (y : Nat), 0, p⟩ ([115, 112, 108, 105, 116, 32] ++ digit x ++ [32] ++ digit y) := by
  intro w _
  have HX := Lib.hid (Ext.new1 w (.cells (insV ⟨3, (x : Nat), (y : Nat), 0, p⟩).toArray 55))
  have HB := Lib.hid (Blk.newL w 55 (insV ⟨3, (x : Nat), (y : Nat), 0, p⟩))
  obtain ⟨D, hD⟩ : ∃ D, digit x = D := ⟨_, rfl⟩
  obtain ⟨D2, hD2⟩ : ∃ D2, digit y = D2 := ⟨_, rfl⟩
  have HI := Lib.hid (fun w => itoaQ x hx w)
  have HI2 := Lib.hid (fun w => itoaQ y hy w)
  have hl : D.length = 1 := by rw [← hD]; rfl
  have hl2 : D2.length = 1 := by rw [← hD2]; rfl
  have hm : ¬ 9223372036854775807 < 6 + D.length := by omega
  have hm2 : ¬ 9223372036854775807 < D.length + 6 + 1 := by omega
  have hm3 : ¬ 9223372036854775807 < D.length + 6 + 1 + D2.length := by omega
  have HM := Lib.hid (And.intro hl hl2)
  rw [hD, hD2]
  rw [hD] at HI
  rw [hD2] at HI2
  clear hx hD hl hy hD2 hl2
  unfold insV at HX HB ⊢
  go_enter Tryd.func63, Tryd.ntmps63
  go_upto_region 7 with fail
  generalize w.alloc (.cells _ 55) = wa at *
  generalize w.heap.size = gi at *
  have c1 : wa.cell? ⟨gi, 1, none⟩ = some (.int .i64 (x : Nat)) := HB.out.cell 1
  have c2 : wa.cell? ⟨gi, 2, none⟩ = some (.int .i64 (y : Nat)) := HB.out.cell 2
  go_quiet (first
    | (go_at_call 62; refine Calls.quiet_of (HI.out _))
    | (go_at_call 62; refine Calls.quiet_of (HI2.out _)))
  have hX := below_drewN HX.out nq
  go_wp2
  go_ret
  exact ⟨by simp, hX⟩
set_option maxHeartbeats 2000000 in
set_option maxRecDepth 20000 in
theorem line_byte (p : Nat → Bool) (l : List UInt8) (h : textT p = l) (hl : l.length ≤ 1000) : LineOf ⟨1, 0, 0, 0, p⟩ ([98, 121, 116, 101, 32] ++ l) := by
  intro w hT
  have hx := Ext.new1 w (.cells (insV ⟨1, 0, 0, 0, p⟩).toArray 55)
  have HX := Lib.hid hx
  have HB := Lib.hid (Blk.newL w 55 (insV ⟨1, 0, 0, 0, p⟩))
  have HT := Lib.hid (hT.keep hx)
  have HH := Lib.hid h
  have hm : ¬ 9223372036854775807 < 5 + l.length := by omega
  have hm2 : ¬ 9223372036854775807 < l.length + 5 := by omega
  clear h hl hT hx
  unfold insV at HX HB HT ⊢
  go_enter Tryd.func63, Tryd.ntmps63
  go_upto_region 3 with fail
  generalize w.alloc (.cells _ 55) = wa at *
  generalize w.heap.size = gi at *
  have c4 : wa.cell? ⟨gi, 4, none⟩ = some (.int .u64 (wd p 0 : Nat)) := HB.out.cell 4
  have c5 : wa.cell? ⟨gi, 5, none⟩ = some (.int .u64 (wd p 1 : Nat)) := HB.out.cell 5
  have c6 : wa.cell? ⟨gi, 6, none⟩ = some (.int .u64 (wd p 2 : Nat)) := HB.out.cell 6
  have c7 : wa.cell? ⟨gi, 7, none⟩ = some (.int .u64 (wd p 3 : Nat)) := HB.out.cell 7
  go_wp2_with (go_at_call 84; refine (clText p wa HT.out).mono ?_; rw [HH.out]; rintro e w1 ⟨rfl, hx1⟩)
  go_ret
  exact ⟨by simp, Ext.trans HX.out hx1⟩

def nfExL : List UInt8 := [97, 42]
def nfEx : T := .node 5 0 false noP [oneT 97]
theorem nfEx_parse : parseR nfExL = .ok nfEx 2 0 := by kernel_rfl
theorem nfEx_comp : compB nfEx = true := by kernel_rfl
def nfExC : List Ins := [⟨3, ((1 : Nat) : Int), ((3 : Nat) : Int), 0, fun _ => false⟩, ⟨1, 0, 0, 0, fun j => j == 97⟩, ⟨2, ((0 : Nat) : Int), 0, 0, fun _ => false⟩, ⟨5, 0, 0, 0, fun _ => false⟩]
theorem nfEx_code : progT nfEx = nfExC := by rfl
def nfExT : List (List UInt8) := [[115, 112, 108, 105, 116, 32, 49, 32, 51], [98, 121, 116, 101, 32, 97], [106, 117, 109, 112, 32, 48], [109, 97, 116, 99, 104]]
theorem nfEx_line (j : Nat) (i : Ins) (l : List UInt8) (hi : nfExC[j]? = some i) (hl : nfExT[j]? = some l) : LineOf i l ∧ l.length ≤ 9 ∧ j < 4 := by
  match j, hi, hl with
  | 0, hi, hl => cases hi; cases hl; exact ⟨line_split 1 3 (by omega) (by omega) _, by decide, by omega⟩
  | 1, hi, hl => cases hi; cases hl; exact ⟨line_byte _ [97] (by kernel_rfl) (by decide), by decide, by omega⟩
  | 2, hi, hl => cases hi; cases hl; exact ⟨line_jump 0 (by omega) _, by decide, by omega⟩
  | 3, hi, hl => cases hi; cases hl; exact ⟨line_match _, by decide, by omega⟩
  | j + 4, hi, hl => simp [nfExC] at hi
end Go.Proofs.YtmfdnjddggaeaaaDoor
namespace Go.Proofs.YtmfdnjddggaeaaaDoor
open Go Go.RowKit
attribute [local irreducible] wd

theorem rd_at_strs {w : World} {b o n : Nat} {T : List (List UInt8)} (h : Rd w 1 (some ⟨b, o, none⟩) n (strsV T)) {k : Nat} {t : List UInt8} (ht : T[k]? = some t) : w.cell? ⟨b, o + k, none⟩ = some (.string ⟨t.toArray⟩) := by
  have hk : k < T.length := (List.getElem?_eq_some_iff.1 ht).1
  obtain ⟨b', o', e, _, hc⟩ := h.2 (by simp [strsV]; omega)
  cases e
  exact hc k _ (by simp [strsV, ht, strV])

set_option maxHeartbeats 1000000 in
theorem numSame (X : List (List UInt8)) (A B : Option Addr) (n c m d : Nat) (w : World) (hx : Rd w 1 A n (strsV X)) (hy : Rd w 1 B m (strsV X)) (hn : n ≤ 1000000) :
    Calls Tryd.prog 37 #[.slice A n c, .slice B m d] w fun e w' => e = .returned (.bool true) ∧ w' = w := by
  have hnm : n = m := hx.len_strs.symm.trans hy.len_strs
  subst hnm
  have HX := Lib.hid hx
  have HY := Lib.hid hy
  clear hx hy
  go_enter Tryd.func37, Tryd.ntmps37
  go_wp2
  go_loopg [14] n (fun g i wr => ∃ k : Nat, k ≤ n ∧ g = n - k ∧ i = .int .i64 (k : Nat) ∧ wr = w)
  case atStart => exact ⟨0, Nat.zero_le _, rfl, rfl, rfl⟩
  case round =>
    obtain ⟨k, hk, rfl, rfl, hwr⟩ := hrel
    obtain rfl : w = wr := hwr.symm
    by_cases hlt : k < n
    · have hkT : k < X.length := by rw [HX.out.len_strs]; exact hlt
      obtain ⟨t, ht⟩ : ∃ t, X[k]? = some t := ⟨_, List.getElem?_eq_getElem hkT⟩
      obtain ⟨b, o, rfl, _, _⟩ := HX.out.2 (by simp [strsV]; omega)
      obtain ⟨b2, o2, rfl, _, _⟩ := HY.out.2 (by simp [strsV]; omega)
      have c1 := rd_at_strs HX.out ht
      have c2 := rd_at_strs HY.out ht
      have hlt' : (k : Int) < (n : Int) := by omega
      have hw : IntKind.i64.wrap ((k : Int) + 1) = (k : Int) + 1 := wrap_id (by omega) (by omega)
      clear ht hkT
      go_wp2
      go_roundg (n - (k + 1))
      case measure => omega
      case rel => exact ⟨k + 1, by omega, rfl, by go_num, rfl⟩
    · obtain rfl : k = n := by omega
      have hlt' : ¬ (k : Int) < (k : Int) := by omega
      go_wp2
      go_ret
      exact ⟨rfl, rfl⟩

def nfExO : List (List UInt8) := [[48, 32, 115, 112, 108, 105, 116, 32, 49, 32, 51], [49, 32, 98, 121, 116, 101, 32, 97], [50, 32, 106, 117, 109, 112, 32, 48], [51, 32, 109, 97, 116, 99, 104]]
theorem nfEx_out (j : Nat) (l : List UInt8) (hl : nfExT[j]? = some l) : nfExO[j]? = some (digit j ++ [32] ++ l) := by
  match j, hl with
  | 0, hl => cases hl; rfl
  | 1, hl => cases hl; rfl
  | 2, hl => cases hl; rfl
  | 3, hl => cases hl; rfl
  | j + 4, hl => simp [nfExT] at hl

def LinesR (w0 : World) (N : Nat) (O : List (List UInt8)) (e : Ending) (w' : World) : Prop := ∃ B c2, e = .returned (.slice B N c2) ∧ Rd w' 1 B N (strsV O) ∧ Ext w0 w'
/-- Lines in general: what they are made of. -/
structure LinesOK (c : List Ins) (O : List (List UInt8)) : Prop where
  many : c.length ≤ 100000
  same : O.length = c.length
  each : ∀ j xi, c[j]? = some xi → ∃ D l, O[j]? = some (D ++ [32] ++ l) ∧ LineOf xi l ∧ l.length ≤ 1000000 ∧ D.length ≤ 100 ∧ ∀ w : World, Calls Tryd.prog 62 #[.int .i64 (j : Nat)] w fun e w' => e = .returned (.string ⟨D.toArray⟩) ∧ Ext w w'
theorem tab_chg {w w' : World} {X : List Nat} (h : Tab w) (hc : Chg X w w') (h0 : 17 ∉ X) : Tab w' := fun j hj => hc.cell (h j hj) h0
theorem tab_lt {w : World} (h : Tab w) : 17 < w.heap.size := block_lt_of_cell (h 0 (by decide))
def OneS (b : Nat) (o : List UInt8) (v : Value) (w : World) : Prop := ∃ vb : Nat, v = .slice (some ⟨vb, 0, none⟩) 1 1 ∧ Blk w vb 9 [strV o] ∧ b ≤ vb
def OutV (B1 : Nat) (O : List (List UInt8)) (j : Nat) (v : Value) (w : World) : Prop := ∃ A9 c9, v = .slice A9 (j + 1) c9 ∧ w.ownsRow B1 9 1 v (j + 1) (strsV (O.take (j + 1)))
set_option maxHeartbeats 8000000 in
set_option maxRecDepth 20000 in
theorem nfLines (c : List Ins) (O : List (List UInt8)) (hL : LinesOK c O) (A : Option Addr) (cc : Nat) (G : Int) (N : Nat) (hN : c.length = N) (w0 : World) (hR : Rd w0 8 A N (codeV c)) (hT : Tab w0) :
    Calls Tryd.prog 38 #[.agg #[.slice A N cc, .int .i64 G]] w0 fun e w' => LinesR w0 N O e w' := by
  have hN5 : N ≤ 100000 := hN ▸ hL.many
  have HG := Lib.hid (tab_lt hT)
  have hx0 := Ext.new1 w0 (.cells #[.slice A N cc, .int .i64 G] 32)
  have HX := Lib.hid hx0
  obtain ⟨B0, hB0⟩ : ∃ B0, w0.heap.size = B0 := ⟨_, rfl⟩
  have HP := Lib.hid (Blk.newA (w := w0) hB0 32 [.slice A N cc, .int .i64 G])
  have HR := Lib.hid (hR.keep hx0)
  have HT := Lib.hid (hT.keep hx0)
  have HB0 := Lib.hid hB0
  have b0 := HP.out.cell 0
  clear hx0 hR hT hB0
  go_enter Tryd.func38, Tryd.ntmps38
  go_upto_region 1 with fail
  rw [HB0.out]
  generalize w0.alloc (.cells _ 32) = wa at *
  obtain ⟨B1, hB1⟩ : ∃ B1, wa.heap.size = B1 := ⟨_, rfl⟩
  have HB1 := Lib.hid hB1
  clear hB1
  go_wp2
  go_loopg [3, 9] N (fun g ov iv wr => ∃ j : Nat, j ≤ N ∧ g = N - j ∧ iv = .int .i64 (j : Nat) ∧ wr.ownsRow B1 9 1 ov j (strsV (O.take j)) ∧ Ext wa wr)
  case atStart => exact ⟨0, by omega, rfl, rfl, World.ownsRow_nil _ _ _ _, Ext.refl _⟩
  case round =>
    obtain ⟨jq, hj4, rfl, rfl, hown, hx⟩ := hrel
    by_cases hlt : jq < N
    · obtain ⟨xi, hxi⟩ : ∃ xi, c[jq]? = some xi := ⟨_, List.getElem?_eq_getElem (show jq < c.length from hN ▸ hlt)⟩
      obtain ⟨D, lq, hout, hline, hlen, hdl, hit⟩ := hL.each jq xi hxi
      obtain ⟨oq, hoq⟩ : ∃ oq, D ++ [32] ++ lq = oq := ⟨_, rfl⟩
      rw [hoq] at hout
      obtain ⟨bA, oA, rfl, hcell⟩ := code_cellsN (c := c) (by rw [hN]; exact HR.out.keep hx) hxi
      have c0 : wr.cell? ⟨bA, oA + jq * 8, none⟩ = some (.int .i64 xi.op) := hcell 0 _ rfl
      have c1 : wr.cell? ⟨bA, oA + jq * 8 + 1, none⟩ = some (.int .i64 xi.x) := hcell 1 _ rfl
      have c2 : wr.cell? ⟨bA, oA + jq * 8 + 2, none⟩ = some (.int .i64 xi.y) := hcell 2 _ rfl
      have c3 : wr.cell? ⟨bA, oA + jq * 8 + 3, none⟩ = some (.int .i64 xi.n) := hcell 3 _ rfl
      have c4 : wr.cell? ⟨bA, oA + jq * 8 + 4, none⟩ = some (.int .u64 (wd xi.set 0 : Nat)) := hcell 4 _ rfl
      have c5 : wr.cell? ⟨bA, oA + jq * 8 + 5, none⟩ = some (.int .u64 (wd xi.set 1 : Nat)) := hcell 5 _ rfl
      have c6 : wr.cell? ⟨bA, oA + jq * 8 + 6, none⟩ = some (.int .u64 (wd xi.set 2 : Nat)) := hcell 6 _ rfl
      have c7 : wr.cell? ⟨bA, oA + jq * 8 + 7, none⟩ = some (.int .u64 (wd xi.set 3 : Nat)) := hcell 7 _ rfl
      have hlt' : (jq : Int) < (N : Int) := by omega
      have hw2 : IntKind.i64.wrap ((jq : Int) + 1) = (jq : Int) + 1 := wrap_id (by omega) (by omega)
      have HW2 := Lib.hid hw2
      have HLN := Lib.hid hline
      have HOQ := Lib.hid hoq
      have HTK := Lib.hid (show strsV (O.take (jq + 1)) = strsV (O.take jq) ++ [strV oq] by rw [List.take_add_one, hout]; simp [strsV])
      have HIT := Lib.hid hit
      have HDL := Lib.hid (And.intro hdl hlen)
      have HLT := Lib.hid (And.intro hlt hN5)
      have HOWN := Lib.hid hown
      have HXR := Lib.hid hx
      obtain ⟨A', c', rfl, _, _, _⟩ := own_rd hown
      clear hline hlen hout hit hdl hoq hcell hxi hlt hown hx hj4 hw2
      go_upto_region 5 with fail
      have hal := Ext.new1 wr (.cells (insV xi).toArray 55)
      obtain ⟨gx, hgx⟩ : ∃ gx, wr.heap.size = gx := ⟨_, rfl⟩
      have HXI := Lib.hid (Blk.newA (w := wr) hgx 55 (insV xi))
      have HOW := Lib.hid (own_ext HOWN.out hal)
      have HXB := Lib.hid (Ext.trans HXR.out hal)
      have HGX := Lib.hid (show ∀ y ∈ (Value.slice A' jq c').ownBlock.toList, y < gx from fun y hy => by have := (HOWN.out.lt y (by simpa using hy)).2; omega)
      unfold insV at hal HXI HOW HXB
      rw [hgx]
      clear hal hgx c0 c1 c2 c3 c4 c5 c6 c7
      generalize wr.alloc (.cells #[.int .i64 xi.op, .int .i64 xi.x, .int .i64 xi.y, .int .i64 xi.n, .int .u64 (wd xi.set 0 : Nat), .int .u64 (wd xi.set 1 : Nat), .int .u64 (wd xi.set 2 : Nat), .int .u64 (wd xi.set 3 : Nat)] 55) = wb at *
      have hgs : gx < wb.heap.size := Blk.lt HXI.out
      have HTB := Lib.hid (HT.out.keep HXB.out)
      have HGT := Lib.hid (show 17 ∉ (Value.slice A' jq c').ownBlock.toList from fun hm => by have := (HOWN.out.lt _ (by simpa using hm)).1; have := HG.out; have := HB1.out; have := HX.out.size; omega)
      have HBW := Lib.hid (show B1 ≤ wb.heap.size from by have := HB1.out; have := HXB.out.size; omega)
      refine wp_region_dagQ (X := fun j => if j = 8 then (Value.slice A' jq c').ownBlock.toList else []) (XX := ((Value.slice A' jq c').ownBlock.toList)) (late := fun j => if j = 8 then [9] else []) (Pre := fun i w => (i = 8 → w.ownsRow B1 9 1 (.slice A' jq c') jq (strsV (O.take jq))) ∧ True) (w0 := wb) (Φ := fun i v w => match i with | 0 => (v = .slice A' jq c') | 1 => (v = .int .i64 (jq : Nat)) | 2 => (v = .string ⟨D.toArray⟩) | 3 => (v = .string ⟨(D ++ [32]).toArray⟩) | 4 => (v = .agg #[.int .i64 xi.op, .int .i64 xi.x, .int .i64 xi.y, .int .i64 xi.n, .int .u64 (wd xi.set 0 : Nat), .int .u64 (wd xi.set 1 : Nat), .int .u64 (wd xi.set 2 : Nat), .int .u64 (wd xi.set 3 : Nat)]) | 5 => (v = .string ⟨lq.toArray⟩) | 6 => (v = .string ⟨oq.toArray⟩) | 7 => (OneS wb.heap.size oq v w) | 8 => (OutV B1 O jq v w) | 9 => (OutV B1 O jq v w) | _ => True) (show Tryd.prog.follows .mixedOrders = true from Checked.mixed Tryd.checked) 25 rfl (by decide +kernel) ?_ ?_ ?_ ?_ ?_ ⟨?_, ?_, ?_, ?_, ?_, ?_, ?_, ?_, ?_, ?_, trivial⟩ ?_
      · intro j x hx
        by_cases hj8 : j = 8
        · subst hj8; have hx' : x ∈ (Value.slice A' jq c').ownBlock.toList := hx; first | exact hx' | (rw [List.mem_append]; first | exact .inl hx' | exact .inr hx')
        simp [hj8] at hx
      · intro j
        by_cases hj8 : j = 8
        · subst hj8; decide +kernel
        simp [hj8, lateOk]
      · intro i
        exact ⟨fun _ => own_ext HOW.out ((Below.refl _ _).drew), trivial⟩
      · intro i j w w' hij hnl h hc
        refine ⟨?_, trivial⟩
        · intro hi
          subst hi
          have hp := h.1 rfl
          have hc' : Chg [] w w' := hc.mono (fun x hx => by
            by_cases hj8 : j = 8
            · exact absurd hj8 (by omega)
            simp [hj8] at hx)
          exact own_chg hp hc' (by simp)
      · intro i j v w w' hij hla h hc
        by_cases hj8 : j = 8
        · subst hj8
          have hc' : Chg (Value.slice A' jq c').ownBlock.toList w w' := hc
          match i, hij, hla, h with
          | 0, _, _, h => exact h
          | 1, _, _, h => exact h
          | 2, _, _, h => exact h
          | 3, _, _, h => exact h
          | 4, _, _, h => exact h
          | 5, _, _, h => exact h
          | 6, _, _, h => exact h
          | 7, _, _, h => exact (by obtain ⟨vb, g1, g2, g3⟩ := h; exact ⟨vb, g1, g2.chg hc' (fun hm => by have := HGX.out vb hm; omega), g3⟩)
          | 8, hij, _, _ => exact absurd rfl hij
          | 9, _, hla, _ => exact absurd (by decide) hla
          | _ + 10, _, _, _ => trivial
        have hc0 : Chg [] w w' := by simpa [hj8] using hc
        have hE : Ext w w' := hc0.ext (by simp)
        match i, h with
        | 0, h => exact h
        | 1, h => exact h
        | 2, h => exact h
        | 3, h => exact h
        | 4, h => exact h
        | 5, h => exact h
        | 6, h => exact h
        | 7, h => exact (by obtain ⟨vb, g1, g2, g3⟩ := h; exact ⟨vb, g1, g2.keep hE, g3⟩)
        | 8, h => exact (by obtain ⟨A9, c9, g1, g2⟩ := h; exact ⟨A9, c9, g1, own_ext g2 hE⟩)
        | 9, h => exact (by obtain ⟨A9, c9, g1, g2⟩ := h; exact ⟨A9, c9, g1, own_ext g2 hE⟩)
        | _ + 10, _ => trivial
      · -- 0: t14 := move t3 
        intro ac wx hE hP hsz hdf h
        have e3 : ac.tmps[3]? = some (.slice A' jq c') := by obtain ⟨v, h1, h2⟩ := h 3 (by decide +kernel); exact h1.trans (h2.symm.trans rfl)
        clear h hsz hdf
        go_wp2
        exact ⟨_, rfl, rfl, Chg.refl _ _⟩
      · -- 1: t15 := move t4 
        intro ac wx hE hP hsz hdf h
        have e4 : ac.tmps[4]? = some (.int .i64 (jq : Nat)) := by obtain ⟨v, h1, h2⟩ := h 4 (by decide +kernel); exact h1.trans (h2.symm.trans rfl)
        clear h hsz hdf
        go_wp2
        exact ⟨_, rfl, rfl, Chg.refl _ _⟩
      · -- 2: t16 := call { value (Operand.func 62), args := #[t15], argTypes := #[3] } 
        intro ac wx hE hP hsz hdf h
        have e15 : ac.tmps[15]? = some (.int .i64 (jq : Nat)) := by obtain ⟨v, h1, h2⟩ := h 15 (by decide +kernel); rw [h1]; exact congrArg some h2
        clear h hsz hdf
        go_wp2_with ((go_at_call 62; refine (HIT.out wx).mono ?_; rintro e w2 ⟨rfl, hx2⟩))
        exact ⟨_, rfl, rfl, .of_ext hx2⟩
      · -- 3: t17 := binOp BinOp.add 9 t16 (const (Value.string { data := #[32] })) 9 
        intro ac wx hE hP hsz hdf h
        have e16 : ac.tmps[16]? = some (.string ⟨D.toArray⟩) := by obtain ⟨v, h1, h2⟩ := h 16 (by decide +kernel); rw [h1]; exact congrArg some h2
        clear h hsz hdf
        have hm : ¬ 9223372036854775807 < D.length + 1 := by have := HDL.out.1; omega
        go_wp2
        exact ⟨_, rfl, rfl, Chg.refl _ _⟩
      · -- 4: t18 := load 55 t5 
        intro ac wx hE hP hsz hdf h
        have e5 : ac.tmps[5]? = some (.pointer (some ⟨gx, 0, none⟩)) := by obtain ⟨v, h1, h2⟩ := h 5 (by decide +kernel); exact h1.trans (h2.symm.trans rfl)
        clear h hsz hdf
        have hb := HXI.out.chg hE (fun hm => by have := HGX.out gx hm; omega); have y0 := hb.cell 0; have y1 := hb.cell 1; have y2 := hb.cell 2; have y3 := hb.cell 3; have y4 := hb.cell 4; have y5 := hb.cell 5; have y6 := hb.cell 6; have y7 := hb.cell 7
        go_wp2
        exact ⟨_, rfl, rfl, Chg.refl _ _⟩
      · -- 5: t19 := call { value (Operand.func 63), args := #[t18], argTypes := #[55] } 
        intro ac wx hE hP hsz hdf h
        have e18 : ac.tmps[18]? = some (.agg #[.int .i64 xi.op, .int .i64 xi.x, .int .i64 xi.y, .int .i64 xi.n, .int .u64 (wd xi.set 0 : Nat), .int .u64 (wd xi.set 1 : Nat), .int .u64 (wd xi.set 2 : Nat), .int .u64 (wd xi.set 3 : Nat)]) := by obtain ⟨v, h1, h2⟩ := h 18 (by decide +kernel); rw [h1]; exact congrArg some h2
        clear h hsz hdf
        skip
        go_wp2_with ((go_at_call 63; refine (HLN.out wx (tab_chg HTB.out hE HGT.out)).mono ?_; rintro e w2 ⟨rfl, hx2⟩))
        exact ⟨_, rfl, rfl, .of_ext hx2⟩
      · -- 6: t20 := binOp BinOp.add 9 t17 t19 9 
        intro ac wx hE hP hsz hdf h
        have e17 : ac.tmps[17]? = some (.string ⟨(D ++ [32]).toArray⟩) := by obtain ⟨v, h1, h2⟩ := h 17 (by decide +kernel); rw [h1]; exact congrArg some h2
        have e19 : ac.tmps[19]? = some (.string ⟨lq.toArray⟩) := by obtain ⟨v, h1, h2⟩ := h 19 (by decide +kernel); rw [h1]; exact congrArg some h2
        clear h hsz hdf
        have hm : ¬ 9223372036854775807 < D.length + 1 + lq.length := by have := HDL.out.1; have := HDL.out.2; omega
        go_wp2
        exact ⟨_, rfl, by rw [← HOQ.out]; simp, Chg.refl _ _⟩
      · -- 7: t21 := buildSlice 70 1 #[(0, t20)] 
        intro ac wx hE hP hsz hdf h
        have e20 : ac.tmps[20]? = some (.string ⟨oq.toArray⟩) := by obtain ⟨v, h1, h2⟩ := h 20 (by decide +kernel); rw [h1]; exact congrArg some h2
        clear h hsz hdf
        have hsz8 := hE.size
        go_wp2
        exact ⟨_, rfl, ⟨_, rfl, Blk.newL wx 9 [strV oq], hsz8⟩, .of_ext (Ext.new1 _ _)⟩
      · -- 8: t22 := call { builtin append, args := #[t14, t21], argTypes := #[70, 70] } 
        intro ac wx hE hP hsz hdf h
        have e14 : ac.tmps[14]? = some (.slice A' jq c') := by obtain ⟨v, h1, h2⟩ := h 14 (by decide +kernel); rw [h1]; exact congrArg some h2
        obtain ⟨v21, e21, s21⟩ : ∃ v, ac.tmps[21]? = some v ∧ (OneS wb.heap.size oq v wx) := h 21 (by decide +kernel)
        clear h hsz hdf
        obtain ⟨vb, rfl, hvb8, hvb9⟩ := s21; have ho8 := hP.1 rfl; have hsz8 := hE.size
        go_wp2_with ((refine wpList_app2 Tryd.elemS rfl (.tmp 14) (.tmp 21) rfl (v := .slice A' jq c') (n := jq) (xs := strsV (O.take jq)) (by simp [Act.eval, e14]) ho8 (by have := HBW.out; omega) (A := some ⟨vb, 0, none⟩) (m := 1) (c := 1) (news := [strV oq]) (by simp [Act.eval, e21]) (by have := Blk.rd (n := 1) (size := 1) hvb8 0 (by simp); simpa using this) (one_one rfl) (by have := HLT.out; omega) (by have := HLT.out; unfold maxLen; omega) ?_; intro v9 w9 hown9 hgr9 _ _))
        obtain ⟨A9, c9, e9, _, _, _⟩ := own_rd hown9; exact ⟨_, rfl, ⟨A9, c9, e9, by rw [← HTK.out] at hown9; exact hown9⟩, ⟨hgr9.by_.os, hgr9.by_.tape, hgr9.by_.output, hgr9.by_.size, fun k hk hkn => hgr9.by_.block k hk (fun e => hkn (by simp [← e]))⟩⟩
      · -- 9: t3 := assign t22 
        intro ac wx hE hP hsz hdf h
        obtain ⟨v22, e22, s22⟩ : ∃ v, ac.tmps[22]? = some v ∧ (OutV B1 O jq v wx) := h 22 (by decide +kernel)
        clear h hsz hdf
        obtain ⟨A9, c9, rfl, ho9⟩ := s22
        go_wp2
        exact ⟨_, rfl, ⟨A9, c9, rfl, ho9⟩, Chg.refl _ _⟩
      · intro ac w9 hE hsz hdf h hrest
        obtain ⟨v0, s0, g0⟩ := h 0 _ rfl
        have e0 := g0 14 rfl
        obtain rfl : v0 = .slice A' jq c' := s0
        obtain ⟨v1, s1, g1⟩ := h 1 _ rfl
        have e1 := g1 15 rfl
        obtain rfl : v1 = .int .i64 (jq : Nat) := s1
        obtain ⟨v2, s2, g2⟩ := h 2 _ rfl
        have e2 := g2 16 rfl
        obtain rfl : v2 = .string ⟨D.toArray⟩ := s2
        obtain ⟨v3, s3, g3⟩ := h 3 _ rfl
        have e3 := g3 17 rfl
        obtain rfl : v3 = .string ⟨(D ++ [32]).toArray⟩ := s3
        obtain ⟨v4, s4, g4⟩ := h 4 _ rfl
        have e4 := g4 18 rfl
        obtain rfl : v4 = .agg #[.int .i64 xi.op, .int .i64 xi.x, .int .i64 xi.y, .int .i64 xi.n, .int .u64 (wd xi.set 0 : Nat), .int .u64 (wd xi.set 1 : Nat), .int .u64 (wd xi.set 2 : Nat), .int .u64 (wd xi.set 3 : Nat)] := s4
        obtain ⟨v5, s5, g5⟩ := h 5 _ rfl
        have e5 := g5 19 rfl
        obtain rfl : v5 = .string ⟨lq.toArray⟩ := s5
        obtain ⟨v6, s6, g6⟩ := h 6 _ rfl
        have e6 := g6 20 rfl
        obtain rfl : v6 = .string ⟨oq.toArray⟩ := s6
        obtain ⟨v7, s7, g7⟩ := h 7 _ rfl
        have e7 := g7 21 rfl
        replace s7 : OneS wb.heap.size oq v7 w9 := s7
        obtain ⟨v8, s8, g8⟩ := h 8 _ rfl
        have e8 := g8 22 rfl
        replace s8 : OutV B1 O jq v8 w9 := s8
        obtain ⟨v9, s9, g9⟩ := h 9 _ rfl
        have e9 := g9 3 rfl
        replace s9 : OutV B1 O jq v9 w9 := s9
        have ha := act_of [(14, .slice A' jq c'), (15, .int .i64 (jq : Nat)), (16, .string ⟨D.toArray⟩), (17, .string ⟨(D ++ [32]).toArray⟩), (18, .agg #[.int .i64 xi.op, .int .i64 xi.x, .int .i64 xi.y, .int .i64 xi.n, .int .u64 (wd xi.set 0 : Nat), .int .u64 (wd xi.set 1 : Nat), .int .u64 (wd xi.set 2 : Nat), .int .u64 (wd xi.set 3 : Nat)]), (19, .string ⟨lq.toArray⟩), (20, .string ⟨oq.toArray⟩), (21, v7), (22, v8), (3, v9)] rfl hsz hdf (by intro p hp; simp only [List.mem_cons, List.not_mem_nil, or_false] at hp; rcases hp with rfl | rfl | rfl | rfl | rfl | rfl | rfl | rfl | rfl | rfl <;> first | exact e0 | exact e1 | exact e2 | exact e3 | exact e4 | exact e5 | exact e6 | exact e7 | exact e8 | exact e9) hrest
        clear h hrest hsz hdf e0 e1 e2 e3 e4 e5 e6 e7 e8 e9 g0 g1 g2 g3 g4 g5 g6 g7 g8 g9
        subst ha
        simp only [List.foldl_cons, List.foldl_nil, Act.put, List.setIfInBounds_toArray, List.set_cons_succ, List.set_cons_zero]
        obtain ⟨A9, c9, rfl, ho9⟩ := s9
        have HX9 := Lib.hid (show Ext wa w9 from ((Chg.of_ext HXB.out).trans hE).ext (fun y hy => by have := (HOWN.out.lt y (by simpa using hy)).1; have := HB1.out; omega))
        have HO9 := Lib.hid ho9
        have hw2 := HW2.out
        clear ho9 hE s7 s8
        go_wp2
        go_roundg (N - (jq + 1))
        case measure => omega
        case rel => exact ⟨jq + 1, by have := HLT.out; omega, rfl, by go_num, HO9.out, HX9.out⟩
    · obtain rfl : jq = N := by omega
      have hlt' : ¬ (jq : Int) < (jq : Int) := by omega
      have HOWN := Lib.hid hown
      have HXR := Lib.hid hx
      obtain ⟨A', c', rfl, _, _, hrd⟩ := own_rd hown
      have HRD := Lib.hid hrd
      clear hown hx hrd
      go_wp2
      go_ret
      refine ⟨A', c', rfl, ?_, Ext.trans HX.out HXR.out⟩
      have h2 := HRD.out
      rw [List.take_of_length_le (by rw [hL.same, hN]; exact Nat.le_refl _)] at h2
      exact h2

theorem nfEx_linesOK : LinesOK nfExC nfExO where
  many := by decide
  same := rfl
  each := fun j xi hxi => by
    obtain ⟨lq, hlq⟩ : ∃ lq, nfExT[j]? = some lq := ⟨_, List.getElem?_eq_getElem (show j < nfExT.length from (List.getElem?_eq_some_iff.1 hxi).1)⟩
    obtain ⟨h1, h2, h3⟩ := nfEx_line j xi lq hxi hlq
    refine ⟨digit j, lq, nfEx_out j lq hlq, h1, by omega, by simp [digit], fun w => (itoa9 j h3 w).mono ?_⟩
    rintro e w' ⟨rfl, rfl⟩
    exact ⟨rfl, Ext.refl _⟩
end Go.Proofs.YtmfdnjddggaeaaaDoor
namespace Go.Proofs.YtmfdnjddggaeaaaDoor
open Go Go.RowKit
attribute [local irreducible] wd

/-- Two instructions are told apart. -/
def insEqB (x y : Ins) : Bool := x.op == y.op && (x.x == y.x && (x.y == y.y && (x.n == y.n && sameP x.set y.set)))
set_option maxRecDepth 20000 in
theorem eq_sp9 (p q : Nat → Bool) (w : World) : (Op.equalIn 9999 24 (.agg #[.int .u64 (wd p 0 : Nat), .int .u64 (wd p 1 : Nat), .int .u64 (wd p 2 : Nat), .int .u64 (wd p 3 : Nat)]) (.agg #[.int .u64 (wd q 0 : Nat), .int .u64 (wd q 1 : Nat), .int .u64 (wd q 2 : Nat), .int .u64 (wd q 3 : Nat)])).run Tryd.prog w = .ok (sameP p q) w := by
  have h := run_equalIn_arr (P := Tryd.prog) 9998 24 22 4 #[.int .u64 (wd p 0 : Nat), .int .u64 (wd p 1 : Nat), .int .u64 (wd p 2 : Nat), .int .u64 (wd p 3 : Nat)] #[.int .u64 (wd q 0 : Nat), .int .u64 (wd q 1 : Nat), .int .u64 (wd q 2 : Nat), .int .u64 (wd q 3 : Nat)]
    (fun i => .int .u64 (wd p i : Nat)) (fun i => .int .u64 (wd q i : Nat)) (fun i => ((wd p i : Nat) : Int) == ((wd q i : Nat) : Int)) Tryd.underlying24 (by kernel_rfl) (fun w => by kernel_rfl)
    (fun i hi => by
      have h4 : i = 0 ∨ i = 1 ∨ i = 2 ∨ i = 3 := by omega
      rcases h4 with rfl | rfl | rfl | rfl <;> rfl)
    (fun i hi => by
      have h4 : i = 0 ∨ i = 1 ∨ i = 2 ∨ i = 3 := by omega
      rcases h4 with rfl | rfl | rfl | rfl <;> rfl)
    (fun i _ w => run_equalIn_int w 9997 _ _ _ _ _ Tryd.underlying22) w
  rw [words_same] at h
  exact h
set_option maxRecDepth 20000 in
theorem insEq (x y : Ins) (w : World) : (Op.equalIn 10000 55 (.agg #[.int .i64 x.op, .int .i64 x.x, .int .i64 x.y, .int .i64 x.n, .int .u64 (wd x.set 0 : Nat), .int .u64 (wd x.set 1 : Nat), .int .u64 (wd x.set 2 : Nat), .int .u64 (wd x.set 3 : Nat)]) (.agg #[.int .i64 y.op, .int .i64 y.x, .int .i64 y.y, .int .i64 y.n, .int .u64 (wd y.set 0 : Nat), .int .u64 (wd y.set 1 : Nat), .int .u64 (wd y.set 2 : Nat), .int .u64 (wd y.set 3 : Nat)])).run Tryd.prog w = .ok (insEqB x y) w := by
  have hq := fun w => eq_sp9 x.set y.set w
  unfold insEqB
  cases h1 : (x.op == y.op)
  · go_simp
  cases h2 : (x.x == y.x)
  · go_simp
  cases h3 : (x.y == y.y)
  · go_simp
  cases h4 : (x.n == y.n)
  · go_simp
  · go_simp
    cases sameP x.set y.set <;> rfl

def eqCode : List Ins → List Ins → Bool
  | [], [] => true
  | x :: c, y :: d => insEqB x y && eqCode c d
  | _, _ => false
theorem eqCode_self (c : List Ins) : eqCode c c = true := by
  induction c with
  | nil => rfl
  | cons x c ih => simp [eqCode, insEqB, ih, sameP]
theorem eqCode_len : ∀ (c d : List Ins), c.length ≠ d.length → eqCode c d = false
  | [], [], h => absurd rfl h
  | [], _ :: _, _ => rfl
  | _ :: _, [], _ => rfl
  | x :: c, y :: d, h => by
    rw [eqCode, eqCode_len c d (fun e => h (by simp [e]))]
    simp
theorem eqCode_drop {c d : List Ins} {k : Nat} {x y : Ins} (hx : c[k]? = some x) (hy : d[k]? = some y) : eqCode (c.drop k) (d.drop k) = (insEqB x y && eqCode (c.drop (k + 1)) (d.drop (k + 1))) := by
  obtain ⟨hc, rfl⟩ := List.getElem?_eq_some_iff.1 hx
  obtain ⟨hd, rfl⟩ := List.getElem?_eq_some_iff.1 hy
  rw [List.drop_eq_getElem_cons hc, List.drop_eq_getElem_cons hd, eqCode]

set_option maxHeartbeats 4000000 in
set_option maxRecDepth 20000 in
theorem nfEqual (c d : List Ins) (A B : Option Addr) (n m ca cb : Nat) (hn : c.length = n) (hm : d.length = m) (hN : n ≤ 1000000) (w : World) (hx : Rd w 8 A n (codeV c)) (hy : Rd w 8 B m (codeV d)) :
    Calls Tryd.prog 49 #[.slice A n ca, .slice B m cb] w fun e w' => e = .returned (.bool (eqCode c d)) ∧ ∃ k, w' = w.drewN k := by
  obtain ⟨R, hR⟩ : ∃ R, eqCode c d = R := ⟨_, rfl⟩
  rw [hR]
  have HL := Lib.hid (And.intro hn hm)
  have HX := Lib.hid hx
  have HY := Lib.hid hy
  have HR := Lib.hid hR
  by_cases hnm : n = m
  · subst hnm
    clear hx hy hn hm hR
    go_enter Tryd.func49, Tryd.ntmps49
    go_wp2
    go_loopg [13] n (fun g i wr => ∃ k : Nat, k ≤ n ∧ g = n - k ∧ i = .int .i64 (k : Nat) ∧ R = eqCode (c.drop k) (d.drop k) ∧ ∃ m, wr = w.drewN m)
    case atStart => exact ⟨0, Nat.zero_le _, rfl, rfl, HR.out.symm, 0, rfl⟩
    case round =>
      obtain ⟨k, hk, rfl, rfl, hrr, mm, hwr⟩ := hrel
      have HRR := Lib.hid hrr
      clear hrr
      by_cases hlt : k < n
      · obtain ⟨x, hx⟩ : ∃ x, c[k]? = some x := ⟨_, List.getElem?_eq_getElem (by rw [HL.out.1]; exact hlt)⟩
        obtain ⟨y, hy⟩ : ∃ y, d[k]? = some y := ⟨_, List.getElem?_eq_getElem (by rw [HL.out.2]; exact hlt)⟩
        have hxw : Ext w wr := by rw [hwr]; exact Ext.drawn _ _
        have HW := Lib.hid hwr
        clear hwr
        obtain ⟨bA, oA, rfl, hcell⟩ := code_cellsN (c := c) (by rw [HL.out.1]; exact HX.out.keep hxw) hx
        obtain ⟨bB, oB, rfl, hcell2⟩ := code_cellsN (c := d) (by rw [HL.out.2]; exact HY.out.keep hxw) hy
        have a0 : wr.cell? ⟨bA, oA + k * 8, none⟩ = some (.int .i64 x.op) := hcell 0 _ rfl
        have a1 : wr.cell? ⟨bA, oA + k * 8 + 1, none⟩ = some (.int .i64 x.x) := hcell 1 _ rfl
        have a2 : wr.cell? ⟨bA, oA + k * 8 + 2, none⟩ = some (.int .i64 x.y) := hcell 2 _ rfl
        have a3 : wr.cell? ⟨bA, oA + k * 8 + 3, none⟩ = some (.int .i64 x.n) := hcell 3 _ rfl
        have a4 : wr.cell? ⟨bA, oA + k * 8 + 4, none⟩ = some (.int .u64 (wd x.set 0 : Nat)) := hcell 4 _ rfl
        have a5 : wr.cell? ⟨bA, oA + k * 8 + 5, none⟩ = some (.int .u64 (wd x.set 1 : Nat)) := hcell 5 _ rfl
        have a6 : wr.cell? ⟨bA, oA + k * 8 + 6, none⟩ = some (.int .u64 (wd x.set 2 : Nat)) := hcell 6 _ rfl
        have a7 : wr.cell? ⟨bA, oA + k * 8 + 7, none⟩ = some (.int .u64 (wd x.set 3 : Nat)) := hcell 7 _ rfl
        have b0 : wr.cell? ⟨bB, oB + k * 8, none⟩ = some (.int .i64 y.op) := hcell2 0 _ rfl
        have b1 : wr.cell? ⟨bB, oB + k * 8 + 1, none⟩ = some (.int .i64 y.x) := hcell2 1 _ rfl
        have b2 : wr.cell? ⟨bB, oB + k * 8 + 2, none⟩ = some (.int .i64 y.y) := hcell2 2 _ rfl
        have b3 : wr.cell? ⟨bB, oB + k * 8 + 3, none⟩ = some (.int .i64 y.n) := hcell2 3 _ rfl
        have b4 : wr.cell? ⟨bB, oB + k * 8 + 4, none⟩ = some (.int .u64 (wd y.set 0 : Nat)) := hcell2 4 _ rfl
        have b5 : wr.cell? ⟨bB, oB + k * 8 + 5, none⟩ = some (.int .u64 (wd y.set 1 : Nat)) := hcell2 5 _ rfl
        have b6 : wr.cell? ⟨bB, oB + k * 8 + 6, none⟩ = some (.int .u64 (wd y.set 2 : Nat)) := hcell2 6 _ rfl
        have b7 : wr.cell? ⟨bB, oB + k * 8 + 7, none⟩ = some (.int .u64 (wd y.set 3 : Nat)) := hcell2 7 _ rfl
        have hlt' : (k : Int) < (n : Int) := by omega
        have hw2 : IntKind.i64.wrap ((k : Int) + 1) = (k : Int) + 1 := wrap_id (by omega) (by omega)
        have hq := fun w => insEq x y w
        obtain ⟨z, hz⟩ : ∃ z, insEqB x y = z := ⟨_, rfl⟩
        rw [hz] at hq
        have HZ := Lib.hid (eqCode_drop hx hy)
        rw [hz] at HZ
        clear hcell hcell2 hxw hx hy hz
        cases z
        · go_upto_region 6 with fail
          go_quiet (fail)
          go_wp2
          go_ret
          refine ⟨by rw [HRR.out, HZ.out]; rfl, mm + nq, ?_⟩
          rw [HW.out, World.drewN_drewN]
        · go_upto_region 6 with fail
          go_quiet (fail)
          go_wp2
          go_roundg (n - (k + 1))
          case measure => omega
          case rel => exact ⟨k + 1, by omega, rfl, by go_num, by rw [HRR.out, HZ.out]; rfl, mm + nq, by rw [HW.out, World.drewN_drewN]⟩
      · obtain rfl : k = n := by omega
        have hlt' : ¬ (k : Int) < (k : Int) := by omega
        have HW := Lib.hid hwr
        clear hwr
        go_wp2
        go_ret
        refine ⟨?_, mm, HW.out⟩
        rw [HRR.out, List.drop_of_length_le (by rw [HL.out.1]; exact Nat.le_refl _), List.drop_of_length_le (by rw [HL.out.2]; exact Nat.le_refl _)]
        rfl
  · have hnm' : ¬ (n : Int) = (m : Int) := by omega
    have hRf : R = false := by rw [← hR]; exact eqCode_len _ _ (by rw [hn, hm]; exact hnm)
    subst hRf
    clear hx hy hn hm hR
    go_enter Tryd.func49, Tryd.ntmps49
    go_wp2
    go_ret
    exact ⟨rfl, 0, rfl⟩

/-- Two programs are told apart. -/
def progEqB (c d : List Ins) (G H : Int) : Bool := G == H && eqCode c d
set_option maxHeartbeats 4000000 in
set_option maxRecDepth 20000 in
theorem nfSame (c d : List Ins) (A B : Option Addr) (n m ca cb : Nat) (G H : Int) (hn : c.length = n) (hm : d.length = m) (hN : n ≤ 1000000) (w : World) (hx : Rd w 8 A n (codeV c)) (hy : Rd w 8 B m (codeV d)) :
    Calls Tryd.prog 18 #[.agg #[.slice A n ca, .int .i64 G], .agg #[.slice B m cb, .int .i64 H]] w fun e w' => e = .returned (.bool (progEqB c d G H)) ∧ Ext w w' := by
  obtain ⟨V, hV⟩ : ∃ V, progEqB c d G H = V := ⟨_, rfl⟩
  rw [hV]
  unfold progEqB at hV
  obtain ⟨g0, hg0⟩ : ∃ g0, w.heap.size = g0 := ⟨_, rfl⟩
  have hb0 := Blk.newA (w := w) hg0 32 [.slice A n ca, .int .i64 G]
  have hx0 := Ext.new1 w (.cells #[.slice A n ca, .int .i64 G] 32)
  obtain ⟨g1, hg1⟩ : ∃ g1, (w.alloc (.cells #[.slice A n ca, .int .i64 G] 32)).heap.size = g1 := ⟨_, rfl⟩
  have hb1 := Blk.newA (w := w.alloc (.cells #[.slice A n ca, .int .i64 G] 32)) hg1 32 [.slice B m cb, .int .i64 H]
  have hx1 := Ext.new1 (w.alloc (.cells #[.slice A n ca, .int .i64 G] 32)) (.cells #[.slice B m cb, .int .i64 H] 32)
  have HB0 := Lib.hid (hb0.keep hx1)
  have HB1 := Lib.hid hb1
  have HX := Lib.hid (Ext.trans hx0 hx1)
  have HA := Lib.hid (hx.keep HX.out)
  have HB := Lib.hid (hy.keep HX.out)
  have HN := Lib.hid (And.intro hn (And.intro hm hN))
  have HG0 := Lib.hid hg0
  have HG1 := Lib.hid (show w.heap.size + 1 = g1 by rw [← hg1]; simp)
  clear hb0 hx0 hb1 hx1 hx hy hn hm hN hg0 hg1
  go_enter Tryd.func18, Tryd.ntmps18
  go_upto_region 1 with fail
  rw [HG1.out, HG0.out]
  generalize (w.alloc (.cells #[.slice A n ca, .int .i64 G] 32)).alloc (.cells #[.slice B m cb, .int .i64 H] 32) = wq at *
  have a0 : wq.cell? ⟨g0, 0, none⟩ = some (.slice A n ca) := HB0.out.cell 0
  have a1 : wq.cell? ⟨g0, 1, none⟩ = some (.int .i64 G) := HB0.out.cell 1
  have b0 : wq.cell? ⟨g1, 0, none⟩ = some (.slice B m cb) := HB1.out.cell 0
  have b1 : wq.cell? ⟨g1, 1, none⟩ = some (.int .i64 H) := HB1.out.cell 1
  cases hGH : (G == H)
  · rw [hGH] at hV
    obtain rfl : V = false := hV.symm
    clear hV
    go_wp2
    go_ret
    exact ⟨rfl, HX.out⟩
  · obtain ⟨R, hR⟩ : ∃ R, eqCode c d = R := ⟨_, rfl⟩
    rw [hGH, hR] at hV
    obtain rfl : V = R := by rw [← hV]; rfl
    clear hV
    have HR := Lib.hid (nfEqual c d A B n m ca cb HN.out.1 HN.out.2.1 HN.out.2.2 wq HA.out HB.out)
    rw [hR] at HR
    clear hR
    go_wp2_with (go_at_call 49; refine HR.out.mono ?_; rintro e w2 ⟨rfl, mq, rfl⟩)
    go_ret
    exact ⟨rfl, Ext.trans HX.out (Ext.drawn _ _)⟩
end Go.Proofs.YtmfdnjddggaeaaaDoor
namespace Go.Proofs.YtmfdnjddggaeaaaDoor
open Go Go.RowKit
attribute [local irreducible] wd

set_option maxHeartbeats 4000000 in
set_option maxRecDepth 20000 in
theorem alive25 (E : Nat → Addr) (w : World) (hE : Env E w) :
    Calls Tryd.prog 10 #[] w fun e w' => e = .returned (.bool true) ∧ Ext w w' := by
  have HE := Lib.hid hE
  clear hE
  go_enter Tryd.func10, Tryd.ntmps10
  go_wp2_with fail
  go_at_call 39
  refine (rxParse E nfExL w HE.out).mono ?_
  rintro e w1 hP
  rw [nfEx_parse] at hP
  obtain ⟨hx1, v, rfl, hv⟩ := hP
  obtain ⟨k, m, z, s, A, n, c, rfl⟩ := nodeV_form hv
  have hxn := Ext.new1 w1 (.cells (nodeC k m z s A n c).toArray 27)
  have hx2 := Lib.hid (Ext.trans hx1 hxn)
  have HV := Lib.hid (hv.keep hxn)
  have HB := Lib.hid (NodeB.new w1 k m z s A n c)
  have HE2 := Lib.hid (HE.out.keep hx2.out)
  clear hv hx1 hxn
  unfold nodeC at hx2 HV HE2 ⊢
  go_upto_region 2 with fail
  generalize w1.alloc (.cells #[.int .i64 k, .int .i64 m, .bool z, .int .u64 (wd s 0 : Nat), .int .u64 (wd s 1 : Nat), .int .u64 (wd s 2 : Nat), .int .u64 (wd s 3 : Nat), .slice A n c] 27) = wq at *
  generalize w1.heap.size = gq at *
  obtain ⟨q0, q1, q2, q3, q4, q5, q6, q7⟩ := HB.out.cells
  go_upto_region 3 with (first
    | (have := hx3; refine store_pg rfl (.tmp 3) (.tmp 12) rfl (g := w3.heap.size) (old := [.slice none 0 0, .int .i64 0]) [.slice AP 4 cP, .int .i64 (nfEx.groups : Nat)] rfl rfl (Blk.newL w3 32 [.slice none 0 0, .int .i64 0]) rfl rfl rfl ?_)
    | (go_at_call 12; refine (nfCompileAny E nfEx (by decide) _ wq (nodeC k m z s A n c) HV.out HE2.out).mono ?_; intro e w3 hres; obtain ⟨hx3, AP, cP, rfl, hrd, hok⟩ := compR_pos hres nfEx_comp; rw [nfEx_code] at hrd; rw [nfEx_code, show nfExC.length = 4 from rfl]))
  have hxp : Ext w3 ((w3.alloc (.cells #[.slice none 0 0, .int .i64 0] 32)).setRow w3.heap.size #[.slice AP 4 cP, .int .i64 (nfEx.groups : Nat)]) := (Ext.new1 _ _).rowX _ _ (Nat.le_refl _)
  have hxe := Ext.trans hx2.out (Ext.trans hx3 hxp)
  have HXP := Lib.hid hxe
  have HPB := Lib.hid (show Blk ((w3.alloc (.cells #[.slice none 0 0, .int .i64 0] 32)).setRow w3.heap.size #[.slice AP 4 cP, .int .i64 (nfEx.groups : Nat)]) w3.heap.size 32 [.slice AP 4 cP, .int .i64 (nfEx.groups : Nat)] from Blk.row (Blk.newL w3 32 [.slice none 0 0, .int .i64 0]) _)
  have HRD := Lib.hid (hrd.keep hxp)
  have HT := Lib.hid ((HE.out.keep hxe).2)
  clear hxp hx3 hrd hok hres this q0 q1 q2 q3 q4 q5 q6 q7 HV HB HE2 hx2 hxe
  generalize (w3.alloc (.cells #[.slice none 0 0, .int .i64 0] 32)).setRow w3.heap.size #[.slice AP 4 cP, .int .i64 (nfEx.groups : Nat)] = wp at *
  generalize w3.heap.size = gp at *
  have p0 : wp.cell? ⟨gp, 0, none⟩ = some (.slice AP 4 cP) := HPB.out.cell 0
  have p1 : wp.cell? ⟨gp, 1, none⟩ = some (.int .i64 (nfEx.groups : Nat)) := HPB.out.cell 1
  go_wp2_with (first
    | (go_at_call 37; go_loud (refine (numSame nfExO AL (some ⟨w4.heap.size, 0, none⟩) 4 cL 4 4 (w4.alloc (.cells (strsV nfExO).toArray 9)) (hL.keep (Ext.new1 _ _)) (by have hr := (Blk.newL w4 9 (strsV nfExO)).rd (n := 4) (size := 1) 0 (by simp [strsV, nfExO]); rw [List.drop_zero, List.take_of_length_le (show (strsV nfExO).length ≤ 4 * 1 by simp [strsV, nfExO])] at hr; exact hr) (by omega)).mono ?_); rintro e wh ⟨rfl, rfl⟩)
    | (go_at_call 38; refine (nfLines nfExC nfExO nfEx_linesOK AP cP (nfEx.groups : Nat) 4 rfl wp HRD.out HT.out).mono ?_; rintro e w4 ⟨AL, cL, rfl, hL, hx4⟩))
  go_ret
  exact ⟨rfl, Ext.trans HXP.out (Ext.trans hx4 (Ext.new1 _ _))⟩
end Go.Proofs.YtmfdnjddggaeaaaDoor
namespace Go.Proofs.YtmfdnjddggaeaaaDoor
open Go Go.RowKit
attribute [local irreducible] wd

theorem numL (E : Nat → Addr) (k : Nat) (x : Int) (hk : k < 16) (hx : (k : Int) + 1 = x) (w : World) (h : Errs w E) :
    Calls Tryd.prog 14 #[errV E k] w fun e w' => e = .returned (.int .i64 x) ∧ Ext w w' := by
  subst hx
  exact numErr E k w h hk
theorem progT_short {t : T} (h : compB t = true) : (progT t).length ≤ 3 * t.size + 1 := by
  have hr : (t.right 1 0).1 = true := (Bool.and_eq_true_iff.1 h).1
  have := lenT_le t (right_good t _ _ hr)
  rw [progT_len]
  omega
theorem nfRightM {c : List Ins} {G M : Nat} (hK : ProgOK c G) (hM : c.length = M) (A : Option Addr) (cc : Nat) (w : World) (hR : Rd w 8 A M (codeV c)) :
    Calls Tryd.prog 16 #[.agg #[.slice A M cc, .int .i64 (G : Nat)]] w fun e w' => e = .returned (.bool true) ∧ Ext w w' := by
  subst hM
  exact nfRight c G hK.r.pos hK.r.most hK.r.few hK.last A cc hK.ok w hR

set_option maxHeartbeats 8000000 in
set_option maxRecDepth 20000 in
theorem lawNfaRight (E : Nat → Addr) (t : T) (S : Nat → Prop) (v : List Value) (w : World) (h : NodeV S w t v) (hE : Env E w) (hES : Errs w E) :
    Calls Tryd.prog 3 #[.agg v.toArray] w fun e w' => e = .returned (.bool true) ∧ Ext w w' := by
  obtain ⟨k, m, z, s, A, n, c, rfl⟩ := nodeV_form h
  have hx0 := Lib.hid (Ext.new1 w (.cells (nodeC k m z s A n c).toArray 27))
  have HV := Lib.hid (h.keep hx0.out)
  have HB := Lib.hid (NodeB.new w k m z s A n c)
  have HE := Lib.hid (hE.keep hx0.out)
  have HN := Lib.hid (hES.keep hx0.out)
  clear h hE hES
  unfold nodeC at hx0 HV HE HN ⊢
  cases hg : t.great
  rotate_left
  · have HG := Lib.hid hg
    clear hg
    go_enter Tryd.func3, Tryd.ntmps3
    go_wp2_with (first
      | (have := hx1; go_at_call 11; refine (lawGreat t S _ (nodeC k m z s A n c) (HV.out.keep hx1)).mono ?_; rintro e w2 ⟨rfl, hx2⟩; rw [HG.out]; obtain ⟨x0, x1, x2, x3, x4, x5, x6, x7⟩ := (HB.out.keep (Ext.trans hx1 hx2)).cells)
      | (go_at_call 10; refine (alive25 E _ HE.out).mono ?_; rintro e w1 ⟨rfl, hx1⟩; obtain ⟨q0, q1, q2, q3, q4, q5, q6, q7⟩ := (HB.out.keep hx1).cells))
    go_ret
    exact ⟨rfl, Ext.trans hx0.out (Ext.trans hx1 hx2)⟩
  have HS := Lib.hid (great_size hg)
  have HG := Lib.hid hg
  clear hg
  cases hc : compB t
  · obtain ⟨RR, hRR⟩ : ∃ RR, (t.right 1 0).1 = RR := ⟨_, rfl⟩
    have HC := Lib.hid hc
    have HRR := Lib.hid hRR
    cases RR
    · clear hc hRR
      go_enter Tryd.func3, Tryd.ntmps3
      go_wp2_with (first
        | (have := hx4; go_at_call 14; refine (numL E 4 5 (by omega) (by omega) _ HN4.out).mono ?_; rintro e w5 ⟨rfl, hx5⟩)
        | (go_at_call 13; refine (rxRight t (by have := HS.out; omega) S _ (nodeC k m z s A n c) HV4.out).mono ?_; rw [HRR.out]; rintro e w4 ⟨rfl, hx4⟩; have HN4 := Lib.hid (HNS.out.keep hx4))
        | (have := hx3; refine store_pg rfl (.tmp 3) (.tmp 12) rfl (g := w3.heap.size) (old := [.slice none 0 0, .int .i64 0]) [.slice none 0 0, .int .i64 0] rfl rfl (Blk.newL w3 32 [.slice none 0 0, .int .i64 0]) rfl rfl rfl ?_; have hxp : Ext w3 ((w3.alloc (.cells #[.slice none 0 0, .int .i64 0] 32)).setRow w3.heap.size #[.slice none 0 0, .int .i64 0]) := (Ext.new1 _ _).rowX _ _ (Nat.le_refl _); have hxq := Ext.trans hx1 (Ext.trans hx2 (Ext.trans hx3 hxp)); have HV4 := Lib.hid (HV.out.keep hxq); have HNS := Lib.hid (HN.out.keep hxq); have HXQ := Lib.hid hxq; obtain ⟨y0, y1, y2, y3, y4, y5, y6, y7⟩ := (HB.out.keep hxq).cells; clear hxp hxq; generalize (w3.alloc (.cells #[.slice none 0 0, .int .i64 0] 32)).setRow w3.heap.size #[.slice none 0 0, .int .i64 0] = wp at *)
        | (have := hx2; go_at_call 12; refine (nfCompileAny E t (by have := HS.out; omega) S _ (nodeC k m z s A n c) (HV.out.keep (Ext.trans hx1 hx2)) (HE.out.keep (Ext.trans hx1 hx2))).mono ?_; intro e w3 hres; obtain ⟨hx3, K, rfl, hK⟩ := compR_neg hres HC.out; rw [HRR.out] at hK; obtain rfl : K = 4 := hK; clear hres)
        | (have := hx1; go_at_call 11; refine (lawGreat t S _ (nodeC k m z s A n c) (HV.out.keep hx1)).mono ?_; rintro e w2 ⟨rfl, hx2⟩; rw [HG.out]; obtain ⟨x0, x1, x2, x3, x4, x5, x6, x7⟩ := (HB.out.keep (Ext.trans hx1 hx2)).cells)
        | (go_at_call 10; refine (alive25 E _ HE.out).mono ?_; rintro e w1 ⟨rfl, hx1⟩; obtain ⟨q0, q1, q2, q3, q4, q5, q6, q7⟩ := (HB.out.keep hx1).cells))
      go_ret
      exact ⟨rfl, Ext.trans hx0.out (Ext.trans HXQ.out (Ext.trans hx4 hx5))⟩
    · have HGr := Lib.hid (show (9 : Int) < (t.groups : Int) by
        unfold compB at hc
        rw [hRR] at hc
        have : ¬ t.groups ≤ 9 := fun h => by simp [h] at hc
        omega)
      clear hc hRR
      have hgr := HGr.out
      go_enter Tryd.func3, Tryd.ntmps3
      go_wp2_with (first
        | (have := hx5; go_at_call 15; refine (rxGroups _ t (Nat.le_refl _) (by have := HS.out; omega) S _ (nodeC k m z s A n c) (HV5.out.keep hx5)).mono ?_; rintro e w6 ⟨rfl, hx6⟩)
        | (have := hx4; go_at_call 14; refine (numL E 1 2 (by omega) (by omega) _ HN4.out).mono ?_; rintro e w5 ⟨rfl, hx5⟩; obtain ⟨u0, u1, u2, u3, u4, u5, u6, u7⟩ := (HB5.out.keep hx5).cells)
        | (go_at_call 13; refine (rxRight t (by have := HS.out; omega) S _ (nodeC k m z s A n c) HV4.out).mono ?_; rw [HRR.out]; rintro e w4 ⟨rfl, hx4⟩; have HN4 := Lib.hid (HNS.out.keep hx4); have HV5 := Lib.hid (HV4.out.keep hx4); have HB5 := Lib.hid (HB4.out.keep hx4))
        | (have := hx3; refine store_pg rfl (.tmp 3) (.tmp 12) rfl (g := w3.heap.size) (old := [.slice none 0 0, .int .i64 0]) [.slice none 0 0, .int .i64 0] rfl rfl (Blk.newL w3 32 [.slice none 0 0, .int .i64 0]) rfl rfl rfl ?_; have hxp : Ext w3 ((w3.alloc (.cells #[.slice none 0 0, .int .i64 0] 32)).setRow w3.heap.size #[.slice none 0 0, .int .i64 0]) := (Ext.new1 _ _).rowX _ _ (Nat.le_refl _); have hxq := Ext.trans hx1 (Ext.trans hx2 (Ext.trans hx3 hxp)); have HV4 := Lib.hid (HV.out.keep hxq); have HB4 := Lib.hid (HB.out.keep hxq); have HNS := Lib.hid (HN.out.keep hxq); have HXQ := Lib.hid hxq; obtain ⟨y0, y1, y2, y3, y4, y5, y6, y7⟩ := (HB.out.keep hxq).cells; clear hxp hxq; unfold errV; generalize (w3.alloc (.cells #[.slice none 0 0, .int .i64 0] 32)).setRow w3.heap.size #[.slice none 0 0, .int .i64 0] = wp at *)
        | (have := hx2; go_at_call 12; refine (nfCompileAny E t (by have := HS.out; omega) S _ (nodeC k m z s A n c) (HV.out.keep (Ext.trans hx1 hx2)) (HE.out.keep (Ext.trans hx1 hx2))).mono ?_; intro e w3 hres; obtain ⟨hx3, K, rfl, hK⟩ := compR_neg hres HC.out; rw [HRR.out] at hK; obtain rfl : K = 1 := hK; clear hres)
        | (have := hx1; go_at_call 11; refine (lawGreat t S _ (nodeC k m z s A n c) (HV.out.keep hx1)).mono ?_; rintro e w2 ⟨rfl, hx2⟩; rw [HG.out]; obtain ⟨x0, x1, x2, x3, x4, x5, x6, x7⟩ := (HB.out.keep (Ext.trans hx1 hx2)).cells)
        | (go_at_call 10; refine (alive25 E _ HE.out).mono ?_; rintro e w1 ⟨rfl, hx1⟩; obtain ⟨q0, q1, q2, q3, q4, q5, q6, q7⟩ := (HB.out.keep hx1).cells))
      go_ret
      exact ⟨rfl, Ext.trans hx0.out (Ext.trans HXQ.out (Ext.trans hx4 (Ext.trans hx5 hx6)))⟩

  have HRR := Lib.hid (show (t.right 1 0).1 = true from (by unfold compB at hc; exact (Bool.and_eq_true_iff.1 hc).1))
  have HM := Lib.hid (progT_short hc)
  have HC := Lib.hid hc
  obtain ⟨M, hM⟩ : ∃ M, (progT t).length = M := ⟨_, rfl⟩
  have HML := Lib.hid hM
  rw [hM] at HM
  clear hc hM
  go_enter Tryd.func3, Tryd.ntmps3
  go_upto_region 10 with (first
    | (go_at_call 13; refine (rxRight t (by have := HS.out; omega) S _ (nodeC k m z s A n c) HV4.out).mono ?_; rw [HRR.out]; rintro e w4 ⟨rfl, hx4⟩)
    | (have := hx3; refine store_pg rfl (.tmp 3) (.tmp 12) rfl (g := w3.heap.size) (old := [.slice none 0 0, .int .i64 0]) [.slice AP M cP, .int .i64 (t.groups : Nat)] rfl rfl (Blk.newL w3 32 [.slice none 0 0, .int .i64 0]) rfl rfl rfl ?_; have hxp : Ext w3 ((w3.alloc (.cells #[.slice none 0 0, .int .i64 0] 32)).setRow w3.heap.size #[.slice AP M cP, .int .i64 (t.groups : Nat)]) := (Ext.new1 _ _).rowX _ _ (Nat.le_refl _); have hxq := Ext.trans hx1 (Ext.trans hx2 (Ext.trans hx3 hxp)); have HV4 := Lib.hid (HV.out.keep hxq); have HB4 := Lib.hid (HB.out.keep hxq); have HPB := Lib.hid (show Blk ((w3.alloc (.cells #[.slice none 0 0, .int .i64 0] 32)).setRow w3.heap.size #[.slice AP M cP, .int .i64 (t.groups : Nat)]) w3.heap.size 32 [.slice AP M cP, .int .i64 (t.groups : Nat)] from Blk.row (Blk.newL w3 32 [.slice none 0 0, .int .i64 0]) _); have HRD := Lib.hid (hrd.keep hxp); have HXQ := Lib.hid hxq; obtain ⟨y0, y1, y2, y3, y4, y5, y6, y7⟩ := (HB.out.keep hxq).cells; clear hxp hxq; generalize (w3.alloc (.cells #[.slice none 0 0, .int .i64 0] 32)).setRow w3.heap.size #[.slice AP M cP, .int .i64 (t.groups : Nat)] = wp at *)
    | (have := hx2; go_at_call 12; refine (nfCompileAny E t (by have := HS.out; omega) S _ (nodeC k m z s A n c) (HV.out.keep (Ext.trans hx1 hx2)) (HE.out.keep (Ext.trans hx1 hx2))).mono ?_; intro e w3 hres; obtain ⟨hx3, AP, cP, rfl, hrd, hok⟩ := compR_pos hres HC.out; have HOK := Lib.hid hok; rw [HML.out] at hrd; rw [HML.out]; clear hok hres)
    | (have := hx1; go_at_call 11; refine (lawGreat t S _ (nodeC k m z s A n c) (HV.out.keep hx1)).mono ?_; rintro e w2 ⟨rfl, hx2⟩; rw [HG.out]; obtain ⟨x0, x1, x2, x3, x4, x5, x6, x7⟩ := (HB.out.keep (Ext.trans hx1 hx2)).cells)
    | (go_at_call 10; refine (alive25 E _ HE.out).mono ?_; rintro e w1 ⟨rfl, hx1⟩; obtain ⟨q0, q1, q2, q3, q4, q5, q6, q7⟩ := (HB.out.keep hx1).cells))
  have HPB5 := Lib.hid (HPB.out.keep hx4)
  have HRD5 := Lib.hid (HRD.out.keep hx4)
  have HV5 := Lib.hid (HV4.out.keep hx4)
  have HB5 := Lib.hid (HB4.out.keep hx4)
  have HX5 := Lib.hid (Ext.trans hx0.out (Ext.trans HXQ.out hx4))
  clear hx0 HV HB HE HN HV4 HB4 HPB HRD HXQ
  generalize w3.heap.size = gp at *
  generalize w.heap.size = gn at *
  clear q0 q1 q2 q3 q4 q5 q6 q7 x0 x1 x2 x3 x4 x5 x6 x7 y0 y1 y2 y3 y4 y5 y6 y7 hx1 hx2 hx3 hx4 hrd
  refine wp_region_dag (E := Ext) (w0 := w4) (Φ := fun i v w => match i with | 0 => (v = .agg #[.slice AP M cP, .int .i64 (t.groups : Nat)]) | 1 => (v = .bool true) | 2 => (v = .bool true) | 3 => (v = .pointer (some ⟨gp, 1, none⟩)) | 4 => (v = .int .i64 (t.groups : Nat)) | 5 => (v = .agg #[.int .i64 k, .int .i64 m, .bool z, .int .u64 (wd s 0 : Nat), .int .u64 (wd s 1 : Nat), .int .u64 (wd s 2 : Nat), .int .u64 (wd s 3 : Nat), .slice A n c]) | 6 => (v = .int .i64 (t.groups : Nat)) | 7 => (v = .bool true) | 8 => (v = .bool true) | 9 => (v = .bool true) | 10 => (v = .pointer (some ⟨gp, 0, none⟩)) | 11 => (v = .slice AP M cP) | 12 => (v = .int .i64 (M : Nat)) | 13 => (v = .agg #[.int .i64 k, .int .i64 m, .bool z, .int .u64 (wd s 0 : Nat), .int .u64 (wd s 1 : Nat), .int .u64 (wd s 2 : Nat), .int .u64 (wd s 3 : Nat), .slice A n c]) | 14 => (v = .int .i64 (t.size : Nat)) | 15 => (v = .int .i64 (3 * (t.size : Nat))) | 16 => (v = .int .i64 (3 * (t.size : Nat) + 1)) | 17 => (v = .bool true) | 18 => (v = .bool true) | 19 => (v = .bool true) | 20 => (v = .agg #[.slice AP M cP, .int .i64 (t.groups : Nat)]) | 21 => (v = .agg #[.slice AP M cP, .int .i64 (t.groups : Nat)]) | 22 => (v = .bool true) | 23 => (v = .bool true) | 24 => (v = .bool true) | _ => True) (show Tryd.prog.follows .mixedOrders = true from Checked.mixed Tryd.checked) 54 rfl (by decide +kernel) ?_ ((Below.refl _ _).drew) ?_ ⟨?_, ?_, ?_, ?_, ?_, ?_, ?_, ?_, ?_, ?_, ?_, ?_, ?_, ?_, ?_, ?_, ?_, ?_, ?_, ?_, ?_, ?_, ?_, ?_, ?_, trivial⟩ ?_
  · intro i v w w' h hE
    match i, h with
    | 0, h => exact h
    | 1, h => exact h
    | 2, h => exact h
    | 3, h => exact h
    | 4, h => exact h
    | 5, h => exact h
    | 6, h => exact h
    | 7, h => exact h
    | 8, h => exact h
    | 9, h => exact h
    | 10, h => exact h
    | 11, h => exact h
    | 12, h => exact h
    | 13, h => exact h
    | 14, h => exact h
    | 15, h => exact h
    | 16, h => exact h
    | 17, h => exact h
    | 18, h => exact h
    | 19, h => exact h
    | 20, h => exact h
    | 21, h => exact h
    | 22, h => exact h
    | 23, h => exact h
    | 24, h => exact h
    | _ + 25, _ => trivial
  · exact fun w w' h h' => h.trans h'
  · -- 0: t30 := load 32 t3 
    intro ac wx hE hsz hdf h
    have e3 : ac.tmps[3]? = some (.pointer (some ⟨gp, 0, none⟩)) := by obtain ⟨v, h1, h2⟩ := h 3 (by decide +kernel); exact h1.trans (h2.symm.trans rfl)
    clear h hsz hdf
    have hk := HPB5.out.keep hE; have k0 := hk.cell 0; have k1 := hk.cell 1
    go_wp2
    exact ⟨_, rfl, rfl, Ext.refl _⟩
  · -- 1: t31 := call { value (Operand.func 16), args := #[t30], argTypes := #[32] } 
    intro ac wx hE hsz hdf h
    have e30 : ac.tmps[30]? = some (.agg #[.slice AP M cP, .int .i64 (t.groups : Nat)]) := by obtain ⟨v, h1, h2⟩ := h 30 (by decide +kernel); rw [h1]; exact congrArg some h2
    clear h hsz hdf
    go_wp2_with ((go_at_call 16; refine (nfRightM HOK.out HML.out AP cP wx (HRD5.out.keep hE)).mono ?_; rintro e w9 ⟨rfl, hx9⟩))
    exact ⟨_, rfl, rfl, hx9⟩
  · -- 2: t32 := move t31 
    intro ac wx hE hsz hdf h
    have e31 : ac.tmps[31]? = some (.bool true) := by obtain ⟨v, h1, h2⟩ := h 31 (by decide +kernel); rw [h1]; exact congrArg some h2
    clear h hsz hdf
    go_wp2
    exact ⟨_, rfl, rfl, Ext.refl _⟩
  · -- 3: t33 := fieldAddr 32 t3 1 (2, True)
    intro ac wx hE hsz hdf h
    have e3 : ac.tmps[3]? = some (.pointer (some ⟨gp, 0, none⟩)) := by obtain ⟨v, h1, h2⟩ := h 3 (by decide +kernel); exact h1.trans (h2.symm.trans rfl)
    have e32 : ac.tmps[32]? = some (.bool true) := by obtain ⟨v, h1, h2⟩ := h 32 (by decide +kernel); rw [h1]; exact congrArg some h2
    clear h hsz hdf
    go_wp2
    exact ⟨_, rfl, rfl, Ext.refl _⟩
  · -- 4: t34 := load 3 t33 (2, True)
    intro ac wx hE hsz hdf h
    have e33 : ac.tmps[33]? = some (.pointer (some ⟨gp, 1, none⟩)) := by obtain ⟨v, h1, h2⟩ := h 33 (by decide +kernel); rw [h1]; exact congrArg some h2
    have e32 : ac.tmps[32]? = some (.bool true) := by obtain ⟨v, h1, h2⟩ := h 32 (by decide +kernel); rw [h1]; exact congrArg some h2
    clear h hsz hdf
    have hk := HPB5.out.keep hE; have k0 := hk.cell 0; have k1 := hk.cell 1
    go_wp2
    exact ⟨_, rfl, rfl, Ext.refl _⟩
  · -- 5: t35 := load 27 t1 (2, True)
    intro ac wx hE hsz hdf h
    have e1 : ac.tmps[1]? = some (.pointer (some ⟨gn, 0, none⟩)) := by obtain ⟨v, h1, h2⟩ := h 1 (by decide +kernel); exact h1.trans (h2.symm.trans rfl)
    have e32 : ac.tmps[32]? = some (.bool true) := by obtain ⟨v, h1, h2⟩ := h 32 (by decide +kernel); rw [h1]; exact congrArg some h2
    clear h hsz hdf
    obtain ⟨x0, x1, x2, x3, x4, x5, x6, x7⟩ := (HB5.out.keep hE).cells
    go_wp2
    exact ⟨_, rfl, rfl, Ext.refl _⟩
  · -- 6: t36 := call { value (Operand.func 15), args := #[t35], argTypes := #[27] } (2, True)
    intro ac wx hE hsz hdf h
    have e35 : ac.tmps[35]? = some (.agg #[.int .i64 k, .int .i64 m, .bool z, .int .u64 (wd s 0 : Nat), .int .u64 (wd s 1 : Nat), .int .u64 (wd s 2 : Nat), .int .u64 (wd s 3 : Nat), .slice A n c]) := by obtain ⟨v, h1, h2⟩ := h 35 (by decide +kernel); rw [h1]; exact congrArg some h2
    have e32 : ac.tmps[32]? = some (.bool true) := by obtain ⟨v, h1, h2⟩ := h 32 (by decide +kernel); rw [h1]; exact congrArg some h2
    clear h hsz hdf
    go_wp2_with ((go_at_call 15; refine (rxGroups _ t (Nat.le_refl _) (by have := HS.out; omega) S _ (nodeC k m z s A n c) (HV5.out.keep hE)).mono ?_; rintro e w9 ⟨rfl, hx9⟩))
    exact ⟨_, rfl, rfl, hx9⟩
  · -- 7: t37 := binOp BinOp.eql 3 t34 t36 3 (2, True)
    intro ac wx hE hsz hdf h
    have e34 : ac.tmps[34]? = some (.int .i64 (t.groups : Nat)) := by obtain ⟨v, h1, h2⟩ := h 34 (by decide +kernel); rw [h1]; exact congrArg some h2
    have e36 : ac.tmps[36]? = some (.int .i64 (t.groups : Nat)) := by obtain ⟨v, h1, h2⟩ := h 36 (by decide +kernel); rw [h1]; exact congrArg some h2
    have e32 : ac.tmps[32]? = some (.bool true) := by obtain ⟨v, h1, h2⟩ := h 32 (by decide +kernel); rw [h1]; exact congrArg some h2
    clear h hsz hdf
    go_wp2
    exact ⟨_, rfl, rfl, Ext.refl _⟩
  · -- 8: t38 := pick t32 t37 (const (Value.bool false)) 
    intro ac wx hE hsz hdf h
    have e32 : ac.tmps[32]? = some (.bool true) := by obtain ⟨v, h1, h2⟩ := h 32 (by decide +kernel); rw [h1]; exact congrArg some h2
    have e37 : ac.tmps[37]? = some (.bool true) := by obtain ⟨v, h1, h2⟩ := h 37 (by decide +kernel); rw [h1]; exact congrArg some h2
    clear h hsz hdf
    go_wp2
    exact ⟨_, rfl, rfl, Ext.refl _⟩
  · -- 9: t39 := move t38 
    intro ac wx hE hsz hdf h
    have e38 : ac.tmps[38]? = some (.bool true) := by obtain ⟨v, h1, h2⟩ := h 38 (by decide +kernel); rw [h1]; exact congrArg some h2
    clear h hsz hdf
    go_wp2
    exact ⟨_, rfl, rfl, Ext.refl _⟩
  · -- 10: t40 := fieldAddr 32 t3 0 (9, True)
    intro ac wx hE hsz hdf h
    have e3 : ac.tmps[3]? = some (.pointer (some ⟨gp, 0, none⟩)) := by obtain ⟨v, h1, h2⟩ := h 3 (by decide +kernel); exact h1.trans (h2.symm.trans rfl)
    have e39 : ac.tmps[39]? = some (.bool true) := by obtain ⟨v, h1, h2⟩ := h 39 (by decide +kernel); rw [h1]; exact congrArg some h2
    clear h hsz hdf
    go_wp2
    exact ⟨_, rfl, rfl, Ext.refl _⟩
  · -- 11: t41 := load 30 t40 (9, True)
    intro ac wx hE hsz hdf h
    have e40 : ac.tmps[40]? = some (.pointer (some ⟨gp, 0, none⟩)) := by obtain ⟨v, h1, h2⟩ := h 40 (by decide +kernel); rw [h1]; exact congrArg some h2
    have e39 : ac.tmps[39]? = some (.bool true) := by obtain ⟨v, h1, h2⟩ := h 39 (by decide +kernel); rw [h1]; exact congrArg some h2
    clear h hsz hdf
    have hk := HPB5.out.keep hE; have k0 := hk.cell 0; have k1 := hk.cell 1
    go_wp2
    exact ⟨_, rfl, rfl, Ext.refl _⟩
  · -- 12: t42 := call { builtin len, args := #[t41], argTypes := #[30] } (9, True)
    intro ac wx hE hsz hdf h
    have e41 : ac.tmps[41]? = some (.slice AP M cP) := by obtain ⟨v, h1, h2⟩ := h 41 (by decide +kernel); rw [h1]; exact congrArg some h2
    have e39 : ac.tmps[39]? = some (.bool true) := by obtain ⟨v, h1, h2⟩ := h 39 (by decide +kernel); rw [h1]; exact congrArg some h2
    clear h hsz hdf
    go_wp2
    exact ⟨_, rfl, rfl, Ext.refl _⟩
  · -- 13: t43 := load 27 t1 (9, True)
    intro ac wx hE hsz hdf h
    have e1 : ac.tmps[1]? = some (.pointer (some ⟨gn, 0, none⟩)) := by obtain ⟨v, h1, h2⟩ := h 1 (by decide +kernel); exact h1.trans (h2.symm.trans rfl)
    have e39 : ac.tmps[39]? = some (.bool true) := by obtain ⟨v, h1, h2⟩ := h 39 (by decide +kernel); rw [h1]; exact congrArg some h2
    clear h hsz hdf
    obtain ⟨x0, x1, x2, x3, x4, x5, x6, x7⟩ := (HB5.out.keep hE).cells
    go_wp2
    exact ⟨_, rfl, rfl, Ext.refl _⟩
  · -- 14: t44 := call { value (Operand.func 17), args := #[t43], argTypes := #[27] } (9, True)
    intro ac wx hE hsz hdf h
    have e43 : ac.tmps[43]? = some (.agg #[.int .i64 k, .int .i64 m, .bool z, .int .u64 (wd s 0 : Nat), .int .u64 (wd s 1 : Nat), .int .u64 (wd s 2 : Nat), .int .u64 (wd s 3 : Nat), .slice A n c]) := by obtain ⟨v, h1, h2⟩ := h 43 (by decide +kernel); rw [h1]; exact congrArg some h2
    have e39 : ac.tmps[39]? = some (.bool true) := by obtain ⟨v, h1, h2⟩ := h 39 (by decide +kernel); rw [h1]; exact congrArg some h2
    clear h hsz hdf
    go_wp2_with ((go_at_call 17; refine (rxSize _ t (Nat.le_refl _) (by have := HS.out; omega) S _ (nodeC k m z s A n c) (HV5.out.keep hE)).mono ?_; rintro e w9 ⟨rfl, hx9⟩))
    exact ⟨_, rfl, rfl, hx9⟩
  · -- 15: t45 := binOp BinOp.mul 3 (const (3:i64)) t44 3 (9, True)
    intro ac wx hE hsz hdf h
    have e44 : ac.tmps[44]? = some (.int .i64 (t.size : Nat)) := by obtain ⟨v, h1, h2⟩ := h 44 (by decide +kernel); rw [h1]; exact congrArg some h2
    have e39 : ac.tmps[39]? = some (.bool true) := by obtain ⟨v, h1, h2⟩ := h 39 (by decide +kernel); rw [h1]; exact congrArg some h2
    clear h hsz hdf
    have hs := HS.out; have hm : IntKind.i64.wrap (3 * (t.size : Int)) = 3 * (t.size : Int) := wrap_id (by omega) (by omega)
    go_wp2
    exact ⟨_, rfl, rfl, Ext.refl _⟩
  · -- 16: t46 := binOp BinOp.add 3 t45 (const (1:i64)) 3 (9, True)
    intro ac wx hE hsz hdf h
    have e45 : ac.tmps[45]? = some (.int .i64 (3 * (t.size : Nat))) := by obtain ⟨v, h1, h2⟩ := h 45 (by decide +kernel); rw [h1]; exact congrArg some h2
    have e39 : ac.tmps[39]? = some (.bool true) := by obtain ⟨v, h1, h2⟩ := h 39 (by decide +kernel); rw [h1]; exact congrArg some h2
    clear h hsz hdf
    have hs := HS.out; have hm : IntKind.i64.wrap (3 * (t.size : Int) + 1) = 3 * (t.size : Int) + 1 := wrap_id (by omega) (by omega)
    go_wp2
    exact ⟨_, rfl, rfl, Ext.refl _⟩
  · -- 17: t47 := binOp BinOp.leq 3 t42 t46 3 (9, True)
    intro ac wx hE hsz hdf h
    have e42 : ac.tmps[42]? = some (.int .i64 (M : Nat)) := by obtain ⟨v, h1, h2⟩ := h 42 (by decide +kernel); rw [h1]; exact congrArg some h2
    have e46 : ac.tmps[46]? = some (.int .i64 (3 * (t.size : Nat) + 1)) := by obtain ⟨v, h1, h2⟩ := h 46 (by decide +kernel); rw [h1]; exact congrArg some h2
    have e39 : ac.tmps[39]? = some (.bool true) := by obtain ⟨v, h1, h2⟩ := h 39 (by decide +kernel); rw [h1]; exact congrArg some h2
    clear h hsz hdf
    have hs := HM.out; have hm : (M : Int) ≤ 3 * (t.size : Int) + 1 := by omega
    go_wp2
    exact ⟨_, rfl, rfl, Ext.refl _⟩
  · -- 18: t48 := pick t39 t47 (const (Value.bool false)) 
    intro ac wx hE hsz hdf h
    have e39 : ac.tmps[39]? = some (.bool true) := by obtain ⟨v, h1, h2⟩ := h 39 (by decide +kernel); rw [h1]; exact congrArg some h2
    have e47 : ac.tmps[47]? = some (.bool true) := by obtain ⟨v, h1, h2⟩ := h 47 (by decide +kernel); rw [h1]; exact congrArg some h2
    clear h hsz hdf
    go_wp2
    exact ⟨_, rfl, rfl, Ext.refl _⟩
  · -- 19: t49 := move t48 
    intro ac wx hE hsz hdf h
    have e48 : ac.tmps[48]? = some (.bool true) := by obtain ⟨v, h1, h2⟩ := h 48 (by decide +kernel); rw [h1]; exact congrArg some h2
    clear h hsz hdf
    go_wp2
    exact ⟨_, rfl, rfl, Ext.refl _⟩
  · -- 20: t50 := load 32 t3 (19, True)
    intro ac wx hE hsz hdf h
    have e3 : ac.tmps[3]? = some (.pointer (some ⟨gp, 0, none⟩)) := by obtain ⟨v, h1, h2⟩ := h 3 (by decide +kernel); exact h1.trans (h2.symm.trans rfl)
    have e49 : ac.tmps[49]? = some (.bool true) := by obtain ⟨v, h1, h2⟩ := h 49 (by decide +kernel); rw [h1]; exact congrArg some h2
    clear h hsz hdf
    have hk := HPB5.out.keep hE; have k0 := hk.cell 0; have k1 := hk.cell 1
    go_wp2
    exact ⟨_, rfl, rfl, Ext.refl _⟩
  · -- 21: t51 := load 32 t3 (19, True)
    intro ac wx hE hsz hdf h
    have e3 : ac.tmps[3]? = some (.pointer (some ⟨gp, 0, none⟩)) := by obtain ⟨v, h1, h2⟩ := h 3 (by decide +kernel); exact h1.trans (h2.symm.trans rfl)
    have e49 : ac.tmps[49]? = some (.bool true) := by obtain ⟨v, h1, h2⟩ := h 49 (by decide +kernel); rw [h1]; exact congrArg some h2
    clear h hsz hdf
    have hk := HPB5.out.keep hE; have k0 := hk.cell 0; have k1 := hk.cell 1
    go_wp2
    exact ⟨_, rfl, rfl, Ext.refl _⟩
  · -- 22: t52 := call { value (Operand.func 18), args := #[t50, t51], argTypes := #[32, 32] } (19, True)
    intro ac wx hE hsz hdf h
    have e50 : ac.tmps[50]? = some (.agg #[.slice AP M cP, .int .i64 (t.groups : Nat)]) := by obtain ⟨v, h1, h2⟩ := h 50 (by decide +kernel); rw [h1]; exact congrArg some h2
    have e51 : ac.tmps[51]? = some (.agg #[.slice AP M cP, .int .i64 (t.groups : Nat)]) := by obtain ⟨v, h1, h2⟩ := h 51 (by decide +kernel); rw [h1]; exact congrArg some h2
    have e49 : ac.tmps[49]? = some (.bool true) := by obtain ⟨v, h1, h2⟩ := h 49 (by decide +kernel); rw [h1]; exact congrArg some h2
    clear h hsz hdf
    go_wp2_with ((go_at_call 18; refine (nfSame (progT t) (progT t) AP AP M M cP cP (t.groups : Nat) (t.groups : Nat) HML.out HML.out (by have := HM.out; have := HS.out; omega) wx (HRD5.out.keep hE) (HRD5.out.keep hE)).mono ?_; rw [show progEqB (progT t) (progT t) (t.groups : Nat) (t.groups : Nat) = true by simp [progEqB, eqCode_self]]; rintro e w9 ⟨rfl, hx9⟩))
    exact ⟨_, rfl, rfl, hx9⟩
  · -- 23: t53 := pick t49 t52 (const (Value.bool false)) 
    intro ac wx hE hsz hdf h
    have e49 : ac.tmps[49]? = some (.bool true) := by obtain ⟨v, h1, h2⟩ := h 49 (by decide +kernel); rw [h1]; exact congrArg some h2
    have e52 : ac.tmps[52]? = some (.bool true) := by obtain ⟨v, h1, h2⟩ := h 52 (by decide +kernel); rw [h1]; exact congrArg some h2
    clear h hsz hdf
    go_wp2
    exact ⟨_, rfl, rfl, Ext.refl _⟩
  · -- 24: t2 := assign t53 
    intro ac wx hE hsz hdf h
    have e53 : ac.tmps[53]? = some (.bool true) := by obtain ⟨v, h1, h2⟩ := h 53 (by decide +kernel); rw [h1]; exact congrArg some h2
    clear h hsz hdf
    go_wp2
    exact ⟨_, rfl, rfl, Ext.refl _⟩
  · intro ac w9 hE hsz hdf h hrest
    obtain ⟨v0, s0, g0⟩ := h 0 _ rfl
    have e0 := g0 30 rfl
    obtain rfl : v0 = .agg #[.slice AP M cP, .int .i64 (t.groups : Nat)] := s0
    obtain ⟨v1, s1, g1⟩ := h 1 _ rfl
    have e1 := g1 31 rfl
    obtain rfl : v1 = .bool true := s1
    obtain ⟨v2, s2, g2⟩ := h 2 _ rfl
    have e2 := g2 32 rfl
    obtain rfl : v2 = .bool true := s2
    obtain ⟨v3, s3, g3⟩ := h 3 _ rfl
    have e3 := g3 33 rfl
    obtain rfl : v3 = .pointer (some ⟨gp, 1, none⟩) := s3
    obtain ⟨v4, s4, g4⟩ := h 4 _ rfl
    have e4 := g4 34 rfl
    obtain rfl : v4 = .int .i64 (t.groups : Nat) := s4
    obtain ⟨v5, s5, g5⟩ := h 5 _ rfl
    have e5 := g5 35 rfl
    obtain rfl : v5 = .agg #[.int .i64 k, .int .i64 m, .bool z, .int .u64 (wd s 0 : Nat), .int .u64 (wd s 1 : Nat), .int .u64 (wd s 2 : Nat), .int .u64 (wd s 3 : Nat), .slice A n c] := s5
    obtain ⟨v6, s6, g6⟩ := h 6 _ rfl
    have e6 := g6 36 rfl
    obtain rfl : v6 = .int .i64 (t.groups : Nat) := s6
    obtain ⟨v7, s7, g7⟩ := h 7 _ rfl
    have e7 := g7 37 rfl
    obtain rfl : v7 = .bool true := s7
    obtain ⟨v8, s8, g8⟩ := h 8 _ rfl
    have e8 := g8 38 rfl
    obtain rfl : v8 = .bool true := s8
    obtain ⟨v9, s9, g9⟩ := h 9 _ rfl
    have e9 := g9 39 rfl
    obtain rfl : v9 = .bool true := s9
    obtain ⟨v10, s10, g10⟩ := h 10 _ rfl
    have e10 := g10 40 rfl
    obtain rfl : v10 = .pointer (some ⟨gp, 0, none⟩) := s10
    obtain ⟨v11, s11, g11⟩ := h 11 _ rfl
    have e11 := g11 41 rfl
    obtain rfl : v11 = .slice AP M cP := s11
    obtain ⟨v12, s12, g12⟩ := h 12 _ rfl
    have e12 := g12 42 rfl
    obtain rfl : v12 = .int .i64 (M : Nat) := s12
    obtain ⟨v13, s13, g13⟩ := h 13 _ rfl
    have e13 := g13 43 rfl
    obtain rfl : v13 = .agg #[.int .i64 k, .int .i64 m, .bool z, .int .u64 (wd s 0 : Nat), .int .u64 (wd s 1 : Nat), .int .u64 (wd s 2 : Nat), .int .u64 (wd s 3 : Nat), .slice A n c] := s13
    obtain ⟨v14, s14, g14⟩ := h 14 _ rfl
    have e14 := g14 44 rfl
    obtain rfl : v14 = .int .i64 (t.size : Nat) := s14
    obtain ⟨v15, s15, g15⟩ := h 15 _ rfl
    have e15 := g15 45 rfl
    obtain rfl : v15 = .int .i64 (3 * (t.size : Nat)) := s15
    obtain ⟨v16, s16, g16⟩ := h 16 _ rfl
    have e16 := g16 46 rfl
    obtain rfl : v16 = .int .i64 (3 * (t.size : Nat) + 1) := s16
    obtain ⟨v17, s17, g17⟩ := h 17 _ rfl
    have e17 := g17 47 rfl
    obtain rfl : v17 = .bool true := s17
    obtain ⟨v18, s18, g18⟩ := h 18 _ rfl
    have e18 := g18 48 rfl
    obtain rfl : v18 = .bool true := s18
    obtain ⟨v19, s19, g19⟩ := h 19 _ rfl
    have e19 := g19 49 rfl
    obtain rfl : v19 = .bool true := s19
    obtain ⟨v20, s20, g20⟩ := h 20 _ rfl
    have e20 := g20 50 rfl
    obtain rfl : v20 = .agg #[.slice AP M cP, .int .i64 (t.groups : Nat)] := s20
    obtain ⟨v21, s21, g21⟩ := h 21 _ rfl
    have e21 := g21 51 rfl
    obtain rfl : v21 = .agg #[.slice AP M cP, .int .i64 (t.groups : Nat)] := s21
    obtain ⟨v22, s22, g22⟩ := h 22 _ rfl
    have e22 := g22 52 rfl
    obtain rfl : v22 = .bool true := s22
    obtain ⟨v23, s23, g23⟩ := h 23 _ rfl
    have e23 := g23 53 rfl
    obtain rfl : v23 = .bool true := s23
    obtain ⟨v24, s24, g24⟩ := h 24 _ rfl
    have e24 := g24 2 rfl
    obtain rfl : v24 = .bool true := s24
    have ha := act_of [(30, .agg #[.slice AP M cP, .int .i64 (t.groups : Nat)]), (31, .bool true), (32, .bool true), (33, .pointer (some ⟨gp, 1, none⟩)), (34, .int .i64 (t.groups : Nat)), (35, .agg #[.int .i64 k, .int .i64 m, .bool z, .int .u64 (wd s 0 : Nat), .int .u64 (wd s 1 : Nat), .int .u64 (wd s 2 : Nat), .int .u64 (wd s 3 : Nat), .slice A n c]), (36, .int .i64 (t.groups : Nat)), (37, .bool true), (38, .bool true), (39, .bool true), (40, .pointer (some ⟨gp, 0, none⟩)), (41, .slice AP M cP), (42, .int .i64 (M : Nat)), (43, .agg #[.int .i64 k, .int .i64 m, .bool z, .int .u64 (wd s 0 : Nat), .int .u64 (wd s 1 : Nat), .int .u64 (wd s 2 : Nat), .int .u64 (wd s 3 : Nat), .slice A n c]), (44, .int .i64 (t.size : Nat)), (45, .int .i64 (3 * (t.size : Nat))), (46, .int .i64 (3 * (t.size : Nat) + 1)), (47, .bool true), (48, .bool true), (49, .bool true), (50, .agg #[.slice AP M cP, .int .i64 (t.groups : Nat)]), (51, .agg #[.slice AP M cP, .int .i64 (t.groups : Nat)]), (52, .bool true), (53, .bool true), (2, .bool true)] rfl hsz hdf (by intro p hp; simp only [List.mem_cons, List.not_mem_nil, or_false] at hp; rcases hp with rfl | rfl | rfl | rfl | rfl | rfl | rfl | rfl | rfl | rfl | rfl | rfl | rfl | rfl | rfl | rfl | rfl | rfl | rfl | rfl | rfl | rfl | rfl | rfl | rfl <;> first | exact e0 | exact e1 | exact e2 | exact e3 | exact e4 | exact e5 | exact e6 | exact e7 | exact e8 | exact e9 | exact e10 | exact e11 | exact e12 | exact e13 | exact e14 | exact e15 | exact e16 | exact e17 | exact e18 | exact e19 | exact e20 | exact e21 | exact e22 | exact e23 | exact e24) hrest
    clear h hrest hsz hdf e0 e1 e2 e3 e4 e5 e6 e7 e8 e9 e10 e11 e12 e13 e14 e15 e16 e17 e18 e19 e20 e21 e22 e23 e24 g0 g1 g2 g3 g4 g5 g6 g7 g8 g9 g10 g11 g12 g13 g14 g15 g16 g17 g18 g19 g20 g21 g22 g23 g24
    subst ha
    simp only [List.foldl_cons, List.foldl_nil, Act.put, List.setIfInBounds_toArray, List.set_cons_succ, List.set_cons_zero]
    go_wp2
    go_ret
    exact ⟨rfl, Ext.trans HX5.out hE⟩
end Go.Proofs.YtmfdnjddggaeaaaDoor
