/- Put together: Nf12, Nf18, Nf19, Nf20, Nf21, Nf22. -/
import Derived.Test.YtdhmfgaiomfodaaDoorUNtG
import Derived.Test.YtdhmfgaiomfodaaDoorUTgF
import Derived.Test.YtdhmfgaiomfodaaDoorUTgL
import Derived.Deep.LoopGhost
import Derived.Deep.DeepCutAuto
import Derived.Lib.ItoaNum
import Derived.Lib.ItoaLen
import Derived.Test.YtdhmfgaiomfodaaDoorUNsB
import Derived.Shelf.Strconv.Itoa3
import Derived.Sort.Grow
import Derived.Test.YtdhmfgaiomfodaaDoorUNsH
import Derived.Test.YtdhmfgaiomfodaaDoorUNtH
namespace Go.Proofs.YtdhmfgaiomfodaaDoor
open Go Go.RowKit
attribute [local irreducible] wd

set_option maxHeartbeats 4000000 in
set_option maxRecDepth 20000 in
theorem alive25 (E : Nat → Addr) (w : World) (hE : Env E w) :
    Calls Tryd.prog 10 #[] w fun e w' => e = .returned (.bool true) ∧ Ext w w' := by
  have HE := Lib.hid hE
  clear hE
  go_enter Tryd.func10, Tryd.ntmps10
  go_wp2_with fail
  go_at_call 39
  refine (rxParse E nfExL w HE.out).mono ?_
  rintro e w1 hP
  rw [nfEx_parse] at hP
  obtain ⟨hx1, v, rfl, hv⟩ := hP
  obtain ⟨k, m, z, s, A, n, c, rfl⟩ := nodeV_form hv
  have hxn := Ext.new1 w1 (.cells (nodeC k m z s A n c).toArray 27)
  have hx2 := Lib.hid (Ext.trans hx1 hxn)
  have HV := Lib.hid (hv.keep hxn)
  have HB := Lib.hid (NodeB.new w1 k m z s A n c)
  have HE2 := Lib.hid (HE.out.keep hx2.out)
  clear hv hx1 hxn
  unfold nodeC at hx2 HV HE2 ⊢
  go_upto_region 2 with fail
  generalize w1.alloc (.cells #[.int .i64 k, .int .i64 m, .bool z, .int .u64 (wd s 0 : Nat), .int .u64 (wd s 1 : Nat), .int .u64 (wd s 2 : Nat), .int .u64 (wd s 3 : Nat), .slice A n c] 27) = wq at *
  generalize w1.heap.size = gq at *
  obtain ⟨q0, q1, q2, q3, q4, q5, q6, q7⟩ := HB.out.cells
  go_upto_region 3 with (first
    | (have := hx3; refine store_pg rfl (.tmp 3) (.tmp 12) rfl (g := w3.heap.size) (old := [.slice none 0 0, .int .i64 0]) [.slice AP 4 cP, .int .i64 (nfEx.groups : Nat)] rfl rfl (Blk.newL w3 32 [.slice none 0 0, .int .i64 0]) rfl rfl rfl ?_)
    | (go_at_call 12; refine (nfCompileAny E nfEx (by decide) _ wq (nodeC k m z s A n c) HV.out HE2.out).mono ?_; intro e w3 hres; obtain ⟨hx3, AP, cP, rfl, hrd, hok⟩ := compR_pos hres nfEx_comp; rw [nfEx_code] at hrd; rw [nfEx_code, show nfExC.length = 4 from rfl]))
  have hxp : Ext w3 ((w3.alloc (.cells #[.slice none 0 0, .int .i64 0] 32)).setRow w3.heap.size #[.slice AP 4 cP, .int .i64 (nfEx.groups : Nat)]) := (Ext.new1 _ _).rowX _ _ (Nat.le_refl _)
  have hxe := Ext.trans hx2.out (Ext.trans hx3 hxp)
  have HXP := Lib.hid hxe
  have HPB := Lib.hid (show Blk ((w3.alloc (.cells #[.slice none 0 0, .int .i64 0] 32)).setRow w3.heap.size #[.slice AP 4 cP, .int .i64 (nfEx.groups : Nat)]) w3.heap.size 32 [.slice AP 4 cP, .int .i64 (nfEx.groups : Nat)] from Blk.row (Blk.newL w3 32 [.slice none 0 0, .int .i64 0]) _)
  have HRD := Lib.hid (hrd.keep hxp)
  have HT := Lib.hid ((HE.out.keep hxe).2)
  clear hxp hx3 hrd hok hres this q0 q1 q2 q3 q4 q5 q6 q7 HV HB HE2 hx2 hxe
  generalize (w3.alloc (.cells #[.slice none 0 0, .int .i64 0] 32)).setRow w3.heap.size #[.slice AP 4 cP, .int .i64 (nfEx.groups : Nat)] = wp at *
  generalize w3.heap.size = gp at *
  have p0 : wp.cell? ⟨gp, 0, none⟩ = some (.slice AP 4 cP) := HPB.out.cell 0
  have p1 : wp.cell? ⟨gp, 1, none⟩ = some (.int .i64 (nfEx.groups : Nat)) := HPB.out.cell 1
  go_wp2_with (first
    | (go_at_call 22; go_loud (refine (numSame nfExO AL (some ⟨w4.heap.size, 0, none⟩) 4 cL 4 4 (w4.alloc (.cells (strsV nfExO).toArray 9)) (hL.keep (Ext.new1 _ _)) (by have hr := (Blk.newL w4 9 (strsV nfExO)).rd (n := 4) (size := 1) 0 (by simp [strsV, nfExO]); rw [List.drop_zero, List.take_of_length_le (show (strsV nfExO).length ≤ 4 * 1 by simp [strsV, nfExO])] at hr; exact hr) (by omega)).mono ?_); rintro e wh ⟨rfl, rfl⟩)
    | (go_at_call 23; refine (nfLines nfExC nfExO nfEx_linesOK AP cP (nfEx.groups : Nat) 4 rfl wp HRD.out HT.out).mono ?_; rintro e w4 ⟨AL, cL, rfl, hL, hx4⟩))
  go_ret
  exact ⟨rfl, Ext.trans HXP.out (Ext.trans hx4 (Ext.new1 _ _))⟩
end Go.Proofs.YtdhmfgaiomfodaaDoor
namespace Go.Proofs.YtdhmfgaiomfodaaDoor
open Go Go.RowKit

def decR (m : Nat) (s : List UInt8) : List UInt8 := if m = 0 then s else Lib.decDigits m ++ s
theorem decR_step {m : Nat} (h : m ≠ 0) (s : List UInt8) : decR (m / 10) (UInt8.ofNat (48 + m % 10) :: s) = decR m s := by
  unfold decR
  rw [if_neg h]
  by_cases h9 : m < 10
  · rw [if_pos (by omega), Lib.decDigits_one h9, Nat.mod_eq_of_lt h9]; rfl
  · rw [if_neg (by omega)]
    conv => rhs; rw [Lib.decDigits, dif_neg h9]
    simp
theorem fig_form : ∀ d, d < 10 → List.drop d (48 :: List.take d ([49, 50, 51, 52, 53, 54, 55, 56, 57] : List UInt8)) = [UInt8.ofNat (48 + d)] := by decide
theorem decR_len (m : Nat) (s : List UInt8) : s.length ≤ (decR m s).length := by
  unfold decR
  split
  · exact Nat.le_refl _
  · simp

set_option maxHeartbeats 2000000 in
set_option maxRecDepth 20000 in
theorem figures (n : Int) (h0 : -9223372036854775808 ≤ n) (h1 : n ≤ 9223372036854775807) (w : World) :
    Calls Tryd.prog 51 #[.int .i64 n] w fun e w' => e = .returned (.string ⟨(Lib.itoa n).toArray⟩) ∧ w' = w := by
  have hlen := Lib.itoa_length_le n h0 h1
  by_cases hz : n = 0
  · subst hz
    have hi : Lib.itoa 0 = [48] := by decide +kernel
    rw [hi]
    clear hi hlen
    go_enter Tryd.func51, Tryd.ntmps51
    go_wp2
    go_ret
    exact ⟨rfl, rfl⟩
  by_cases hn : n < 0
  · obtain ⟨u, rfl⟩ : ∃ u : Nat, n = -(u : Int) := ⟨n.natAbs, by omega⟩
    have hT : Lib.itoa (-(u : Int)) = 45 :: Lib.decDigits u := by unfold Lib.itoa; rw [if_pos hn]; simp
    rw [hT] at hlen ⊢
    have HLEN := Lib.hid (show (Lib.decDigits u).length ≤ 22 by simp at hlen; omega)
    have HT := Lib.hid (show decR u [] = Lib.decDigits u by unfold decR; rw [if_neg (by omega), List.append_nil])
    have HU := Lib.hid (show u ≤ 9223372036854775808 by omega)
    clear h0 h1 hT hlen
    go_enter Tryd.func51, Tryd.ntmps51
    go_wp2
    clear hz hn
    go_loopg [0, 3] u (fun gg nv sv wr => ∃ (m : Nat) (s : List UInt8), gg = m ∧ nv = .int .i64 (-(m : Int)) ∧ sv = .string ⟨s.toArray⟩ ∧ decR m s = Lib.decDigits u ∧ m ≤ u ∧ wr = w)
    case atStart => exact ⟨u, [], rfl, rfl, rfl, HT.out, Nat.le_refl _, rfl⟩
    case round =>
      obtain ⟨m, s, hg, rfl, rfl, hd, hm, rfl⟩ := hrel
      have hg2 := hg.symm
      subst hg2
      clear hg
      have HD := Lib.hid hd
      have HSL := Lib.hid (show s.length ≤ 22 from by have h1 := decR_len m s; rw [hd] at h1; have := HLEN.out; omega)
      clear hd
      by_cases h : m = 0
      · subst h
        have hx : s = Lib.decDigits u := HD.out
        subst hx
        have hsl := HSL.out
        go_wp2
        go_ret
        exact ⟨rfl, rfl⟩
      · have hne : ¬ -(m : Int) = 0 := by omega
        obtain ⟨d, hdd⟩ : ∃ d, m % 10 = d := ⟨_, rfl⟩
        obtain ⟨m1, hm1⟩ : ∃ m1, m / 10 = m1 := ⟨_, rfl⟩
        have HS := Lib.hid (show decR m1 (UInt8.ofNat (48 + d) :: s) = Lib.decDigits u from by rw [← hdd, ← hm1, decR_step h, HD.out])
        have HDM := Lib.hid (And.intro hdd hm1)
        have hd10 : d < 10 := by omega
        have hm1u : m1 ≤ u ∧ m1 < m := by omega
        have hmod : Int.tmod (-(m : Int)) 10 = -(d : Int) := by rw [Int.neg_tmod, Int.tmod_eq_emod_of_nonneg (by omega)]; omega
        have hdiv : Int.tdiv (-(m : Int)) 10 = -(m1 : Int) := by rw [Int.neg_tdiv, Int.tdiv_eq_ediv_of_nonneg (by omega)]; omega
        have hwd : IntKind.i64.wrap (-(m1 : Int)) = -(m1 : Int) := wrap_id (by have := HU.out; omega) (by omega)
        have hwe : IntKind.i64.wrap (-(d : Int)) = -(d : Int) := wrap_id (by omega) (by omega)
        have hwf : IntKind.i64.wrap (d : Int) = (d : Int) := wrap_id (by omega) (by omega)
        have hw1 : IntKind.i64.wrap ((d : Int) + 1) = (d : Int) + 1 := wrap_id (by omega) (by omega)
        have hsl := HSL.out
        have HP := Lib.hid (fig_form d hd10)
        have HU1 := Lib.hid hm1u
        clear hdd hm1 hm1u h
        rcases Nat.eq_zero_or_pos d with rfl | hdp
        all_goals
          go_wp2
          go_roundg m1
          case measure => exact HU1.out.2
          case rel => exact ⟨m1, _, rfl, by go_num, (by first | (rw [HP.out]; rfl) | rfl | (simp; done)), HS.out, HU1.out.1, rfl⟩
  · obtain ⟨u, rfl⟩ : ∃ u : Nat, n = u := ⟨n.toNat, by omega⟩
    have hT : Lib.itoa (u : Int) = Lib.decDigits u := by unfold Lib.itoa; rw [if_neg hn]; simp
    rw [hT] at hlen ⊢
    have HLEN := Lib.hid (show (Lib.decDigits u).length ≤ 22 by omega)
    have HT := Lib.hid (show decR u [] = Lib.decDigits u by unfold decR; rw [if_neg (by omega), List.append_nil])
    have HU := Lib.hid (show u ≤ 9223372036854775807 by omega)
    clear h0 h1 hT hlen
    go_enter Tryd.func51, Tryd.ntmps51
    go_wp2
    clear hz hn
    go_loopg [0, 3] u (fun gg nv sv wr => ∃ (m : Nat) (s : List UInt8), gg = m ∧ nv = .int .i64 ((m : Int)) ∧ sv = .string ⟨s.toArray⟩ ∧ decR m s = Lib.decDigits u ∧ m ≤ u ∧ wr = w)
    case atStart => exact ⟨u, [], rfl, rfl, rfl, HT.out, Nat.le_refl _, rfl⟩
    case round =>
      obtain ⟨m, s, hg, rfl, rfl, hd, hm, rfl⟩ := hrel
      have hg2 := hg.symm
      subst hg2
      clear hg
      have HD := Lib.hid hd
      have HSL := Lib.hid (show s.length ≤ 22 from by have h1 := decR_len m s; rw [hd] at h1; have := HLEN.out; omega)
      clear hd
      by_cases h : m = 0
      · subst h
        have hx : s = Lib.decDigits u := HD.out
        subst hx
        have hsl := HSL.out
        go_wp2
        go_ret
        exact ⟨rfl, rfl⟩
      · have hne : ¬ (m : Int) = 0 := by omega
        obtain ⟨d, hdd⟩ : ∃ d, m % 10 = d := ⟨_, rfl⟩
        obtain ⟨m1, hm1⟩ : ∃ m1, m / 10 = m1 := ⟨_, rfl⟩
        have HS := Lib.hid (show decR m1 (UInt8.ofNat (48 + d) :: s) = Lib.decDigits u from by rw [← hdd, ← hm1, decR_step h, HD.out])
        have HDM := Lib.hid (And.intro hdd hm1)
        have hd10 : d < 10 := by omega
        have hm1u : m1 ≤ u ∧ m1 < m := by omega
        have hmod : (m : Int) % 10 = (d : Int) := by omega
        have hdiv : (m : Int) / 10 = (m1 : Int) := by omega
        have hwd : IntKind.i64.wrap (m1 : Int) = (m1 : Int) := wrap_id (by omega) (by have := HU.out; omega)
        have hw1 : IntKind.i64.wrap ((d : Int) + 1) = (d : Int) + 1 := wrap_id (by omega) (by omega)
        have hsl := HSL.out
        have HP := Lib.hid (fig_form d hd10)
        have HU1 := Lib.hid hm1u
        clear hdd hm1 hm1u h
        go_wp2
        go_roundg m1
        case measure => exact HU1.out.2
        case rel => exact ⟨m1, _, rfl, by go_num, (by first | (rw [HP.out]; rfl) | rfl | (simp; done)), HS.out, HU1.out.1, rfl⟩
end Go.Proofs.YtdhmfgaiomfodaaDoor
namespace Go.Proofs
open Go.Shelf
def Tryd.laysItoa_ren : Go.Shelf.Ren := ⟨fun | 171 => 53 | 243 => 77 | 246 => 91 | 283 => 103 | 284 => 104 | 285 => 105 | 286 => 106 | 129 => 118 | 317 => 117 | 318 => 119 | 319 => 120 | 320 => 121 | 337 => 128 | 338 => 113 | n => n, fun | 3 => 3 | 9 => 9 | 2 => 2 | 4 => 4 | 171 => 164 | 0 => 0 | 53 => 22 | 37 => 152 | 5 => 5 | 173 => 167 | 212 => 177 | 51 => 157 | 20 => 20 | 213 => 178 | 46 => 66 | 232 => 199 | 233 => 181 | n => n, fun | 17 => 16 | 18 => 18 | 19 => 17 | n => n⟩
theorem Tryd.laysItoa : Go.Proofs.LaysM.n171 Tryd.prog Tryd.laysItoa_ren := {
  mixed := by kernel_rfl
  f129 := Tryd.func118.trans (congrArg some (by kernel_rfl))
  f171 := Tryd.func53.trans (congrArg some (by kernel_rfl))
  f243 := Tryd.func77.trans (congrArg some (by kernel_rfl))
  f246 := Tryd.func91.trans (congrArg some (by kernel_rfl))
  f283 := Tryd.func103.trans (congrArg some (by kernel_rfl))
  f284 := Tryd.func104.trans (congrArg some (by kernel_rfl))
  f285 := Tryd.func105.trans (congrArg some (by kernel_rfl))
  f286 := Tryd.func106.trans (congrArg some (by kernel_rfl))
  f317 := Tryd.func117.trans (congrArg some (by kernel_rfl))
  f318 := Tryd.func119.trans (congrArg some (by kernel_rfl))
  f319 := Tryd.func120.trans (congrArg some (by kernel_rfl))
  f320 := Tryd.func121.trans (congrArg some (by kernel_rfl))
  f337 := Tryd.func128.trans (congrArg some (by kernel_rfl))
  f338 := Tryd.func113.trans (congrArg some (by kernel_rfl))
  t0 := Tryd.underlying0
  a0 := Tryd.isAgg0
  z0 := Tryd.sizeOf0
  v0 := Tryd.zeroValue0
  t2 := Tryd.underlying2
  a2 := Tryd.isAgg2
  z2 := Tryd.sizeOf2
  v2 := Tryd.zeroValue2
  t3 := Tryd.underlying3
  a3 := Tryd.isAgg3
  z3 := Tryd.sizeOf3
  v3 := Tryd.zeroValue3
  t4 := Tryd.underlying4
  a4 := Tryd.isAgg4
  z4 := Tryd.sizeOf4
  v4 := Tryd.zeroValue4
  t5 := Tryd.underlying5
  a5 := Tryd.isAgg5
  z5 := Tryd.sizeOf5
  v5 := Tryd.zeroValue5
  t9 := Tryd.underlying9
  a9 := Tryd.isAgg9
  z9 := Tryd.sizeOf9
  v9 := Tryd.zeroValue9
  t20 := Tryd.underlying20
  a20 := Tryd.isAgg20
  z20 := Tryd.sizeOf20
  v20 := Tryd.zeroValue20
  t37 := Tryd.underlying152
  a37 := Tryd.isAgg152
  z37 := Tryd.sizeOf152
  v37 := Tryd.zeroValue152
  t46 := Tryd.underlying66
  a46 := Tryd.isAgg66
  z46 := Tryd.sizeOf66
  v46 := Tryd.zeroValue66
  t51 := Tryd.underlying157
  a51 := Tryd.isAgg157
  z51 := Tryd.sizeOf157
  v51 := Tryd.zeroValue157
  t53 := Tryd.underlying22
  a53 := Tryd.isAgg22
  z53 := Tryd.sizeOf22
  v53 := Tryd.zeroValue22
  t171 := Tryd.underlying164
  a171 := Tryd.isAgg164
  z171 := Tryd.sizeOf164
  v171 := Tryd.zeroValue164
  t173 := Tryd.underlying167
  a173 := Tryd.isAgg167
  z173 := Tryd.sizeOf167
  v173 := Tryd.zeroValue167
  t212 := Tryd.underlying177
  a212 := Tryd.isAgg177
  z212 := Tryd.sizeOf177
  v212 := Tryd.zeroValue177
  t213 := Tryd.underlying178
  a213 := Tryd.isAgg178
  z213 := Tryd.sizeOf178
  t232 := Tryd.underlying199
  a232 := Tryd.isAgg199
  z232 := Tryd.sizeOf199
  v232 := Tryd.zeroValue199
  t233 := Tryd.underlying181
  a233 := Tryd.isAgg181
  z233 := Tryd.sizeOf181
  v233 := Tryd.zeroValue181
  g17 := by kernel_rfl
  g18 := by kernel_rfl
  g19 := by kernel_rfl
  i0 := by kernel_rfl
  i2 := by kernel_rfl
  i3 := by kernel_rfl
  i4 := by kernel_rfl
  i5 := by kernel_rfl
  i9 := by kernel_rfl
  i20 := by kernel_rfl
  i37 := by kernel_rfl
  i46 := by kernel_rfl
  i51 := by kernel_rfl
  i53 := by kernel_rfl
  i171 := by kernel_rfl
  i173 := by kernel_rfl
  i212 := by kernel_rfl
  i232 := by kernel_rfl
  i233 := by kernel_rfl
  m17 := by kernel_rfl
  m18 := by kernel_rfl
  m19 := by kernel_rfl }

end Go.Proofs
namespace Go.Proofs.YtdhmfgaiomfodaaDoor
open Go Go.RowKit
attribute [local irreducible] wd

def PTab (w : World) : Prop := Lib.TabIs Tryd.prog w "internal/strconv.uint64pow10" .u64 Lib.pow10Tab
theorem PTab.keep {w w' : World} (h : PTab w) (hx : Ext w w') : PTab w' := by
  unfold PTab Lib.TabIs World.var? at h ⊢
  cases hg : Tryd.prog.globalNamed "internal/strconv.uint64pow10" with
  | none => rw [hg] at h; cases h
  | some g =>
    rw [hg] at h
    simp only [Option.bind_some] at h ⊢
    have hlt : g < w.heap.size := by
      rcases Nat.lt_or_ge g w.heap.size with h' | h'
      · exact h'
      · rw [Array.getElem?_eq_none h'] at h; cases h
    rw [hx.block g hlt]
    exact h
theorem ext_grow (w : World) (k : Nat) (os : Array Obj) : Ext w (Sort.grow (w.drewN k) os) := by
  refine ⟨rfl, rfl, rfl, ?_, fun j hj => ?_⟩
  · show w.heap.size ≤ (w.heap ++ os).size
    rw [Array.size_append]; omega
  · show (w.heap ++ os)[j]? = w.heap[j]?
    rw [Array.getElem?_append, if_pos hj]
theorem itoaAny (n : Int) (h0 : -9223372036854775808 ≤ n ∧ n ≤ 9223372036854775807) (w : World) (hP : PTab w) :
    Calls Tryd.prog 53 #[.int .i64 n] w fun e w' => e = .returned (.string ⟨(Lib.itoa n).toArray⟩) ∧ Ext w w' := by
  refine (Any.strconv_Itoa Tryd.laysItoa n h0.1 h0.2 w hP).mono ?_
  rintro e w' ⟨h1, k, os, rfl⟩
  exact ⟨h1, ext_grow w k os⟩

def lineT (i : Ins) : List UInt8 :=
  if i.op = 1 then [98, 121, 116, 101, 32] ++ textT i.set
  else if i.op = 2 then [106, 117, 109, 112, 32] ++ Lib.itoa i.x
  else if i.op = 3 then [115, 112, 108, 105, 116, 32] ++ Lib.itoa i.x ++ [32] ++ Lib.itoa i.y
  else if i.op = 4 then [115, 97, 118, 101, 32] ++ Lib.itoa i.n
  else if i.op = 5 then [109, 97, 116, 99, 104]
  else [63]
def InsN (i : Ins) : Prop := (-9223372036854775808 ≤ i.x ∧ i.x ≤ 9223372036854775807) ∧ (-9223372036854775808 ≤ i.y ∧ i.y ≤ 9223372036854775807) ∧ (-9223372036854775808 ≤ i.n ∧ i.n ≤ 9223372036854775807)
theorem lineT_len (i : Ins) (h : InsN i) : (lineT i).length ≤ 4000 := by
  have h1 := text_len i.set
  have h2 := Lib.itoa_length_le i.x h.1.1 h.1.2
  have h3 := Lib.itoa_length_le i.y h.2.1.1 h.2.1.2
  have h4 := Lib.itoa_length_le i.n h.2.2.1 h.2.2.2
  unfold lineT
  split
  · simp; omega
  split
  · simp; omega
  split
  · simp; omega
  split
  · simp; omega
  split <;> simp

set_option maxHeartbeats 8000000 in
set_option maxRecDepth 20000 in
theorem nfLineAny (i : Ins) (hi : InsN i) (w : World) (hT : Tab w) (hP : PTab w) :
    Calls Tryd.prog 54 #[.agg (insV i).toArray] w fun e w' => e = .returned (.string ⟨(lineT i).toArray⟩) ∧ Ext w w' := by
  have hx := Ext.new1 w (.cells (insV i).toArray 64)
  have HX := Lib.hid hx
  have HT := Lib.hid (hT.keep hx)
  have HP := Lib.hid (hP.keep hx)
  obtain ⟨gx, hgx⟩ : ∃ gx, w.heap.size = gx := ⟨_, rfl⟩
  have HB := Lib.hid (Blk.newA (w := w) hgx 64 (insV i))
  have HG := Lib.hid hgx
  obtain ⟨V, hV⟩ : ∃ V, lineT i = V := ⟨_, rfl⟩
  rw [hV]
  have h1 := text_len i.set
  have h2 := Lib.itoa_length_le i.x hi.1.1 hi.1.2
  have h3 := Lib.itoa_length_le i.y hi.2.1.1 hi.2.1.2
  have h4 := Lib.itoa_length_le i.n hi.2.2.1 hi.2.2.2
  have HIX := Lib.hid (fun (w : World) (hP : PTab w) => itoaAny i.x hi.1 w hP)
  have HIY := Lib.hid (fun (w : World) (hP : PTab w) => itoaAny i.y hi.2.1 w hP)
  have HIN := Lib.hid (fun (w : World) (hP : PTab w) => itoaAny i.n hi.2.2 w hP)
  have HIS := Lib.hid (fun (w : World) (hT : Tab w) => clText i.set w hT)
  unfold lineT at hV
  generalize Lib.itoa i.x = DX at *
  generalize Lib.itoa i.y = DY at *
  generalize Lib.itoa i.n = DN at *
  generalize textT i.set = DS at *
  have HV := Lib.hid hV
  obtain ⟨op, x, y, n, p⟩ := i
  dsimp only at *
  have HL := Lib.hid (And.intro h1 (And.intro h2 (And.intro h3 h4)))
  have hm : ¬ 9223372036854775807 < 5 + DS.length := by omega
  have hm2 : ¬ 9223372036854775807 < DS.length + 5 := by omega
  have hm3 : ¬ 9223372036854775807 < 5 + DX.length := by omega
  have hm4 : ¬ 9223372036854775807 < DX.length + 5 := by omega
  have hm5 : ¬ 9223372036854775807 < 5 + DN.length := by omega
  have hm6 : ¬ 9223372036854775807 < DN.length + 5 := by omega
  clear hx hT hP hgx hV h1 h2 h3 h4 hi
  unfold insV at HX HT HP HB ⊢
  go_enter Tryd.func54, Tryd.ntmps54
  go_upto_region 1 with fail
  rw [HG.out]
  generalize w.alloc (.cells _ 64) = wa at *
  have b0 := HB.out.cell 0; have b1 := HB.out.cell 1; have b2 := HB.out.cell 2; have b3 := HB.out.cell 3; have b4 := HB.out.cell 4; have b5 := HB.out.cell 5; have b6 := HB.out.cell 6; have b7 := HB.out.cell 7
  by_cases o1 : op = 1
  · subst o1
    have e : V = [98, 121, 116, 101, 32] ++ DS := by rw [← HV.out]; rfl
    subst e
    go_wp2_with (go_at_call 78; refine (HIS.out wa HT.out).mono ?_; rintro e w1 ⟨rfl, hx1⟩)
    go_ret
    exact ⟨rfl, Ext.trans HX.out hx1⟩
  by_cases o2 : op = 2
  · subst o2
    have e : V = [106, 117, 109, 112, 32] ++ DX := by rw [← HV.out]; rfl
    subst e
    go_wp2_with (go_at_call 53; refine (HIX.out wa HP.out).mono ?_; rintro e w1 ⟨rfl, hx1⟩)
    go_ret
    exact ⟨rfl, Ext.trans HX.out hx1⟩
  by_cases o3 : op = 3
  · subst o3
    have e : V = [115, 112, 108, 105, 116, 32] ++ DX ++ [32] ++ DY := by rw [← HV.out]; rfl
    subst e
    clear b0 b1 b2 b3 b4 b5 b6 b7 hm hm2 hm3 hm4 hm5 hm6 o1 o2
    have c0 := HB.out.cell 0
    go_upto_region 7 with fail
    clear c0
    refine wp_region_dag (E := Ext) (w0 := wa) (Φ := fun i v w => match i with | 0 => (v = .pointer (some ⟨gx, 1, none⟩)) | 1 => (v = .int .i64 x) | 2 => (v = .string ⟨DX.toArray⟩) | 3 => (v = .string ⟨([115, 112, 108, 105, 116, 32] ++ DX).toArray⟩) | 4 => (v = .string ⟨([115, 112, 108, 105, 116, 32] ++ DX ++ [32]).toArray⟩) | 5 => (v = .pointer (some ⟨gx, 2, none⟩)) | 6 => (v = .int .i64 y) | 7 => (v = .string ⟨DY.toArray⟩) | 8 => (v = .string ⟨([115, 112, 108, 105, 116, 32] ++ DX ++ [32] ++ DY).toArray⟩) | 9 => (v = .string ⟨([115, 112, 108, 105, 116, 32] ++ DX ++ [32] ++ DY).toArray⟩) | _ => True) (show Tryd.prog.follows .mixedOrders = true from Checked.mixed Tryd.checked) 36 rfl (by decide +kernel) ?_ ((Below.refl _ _).drew) ?_ ⟨?_, ?_, ?_, ?_, ?_, ?_, ?_, ?_, ?_, ?_, trivial⟩ ?_
    · intro i v w w' h hE
      match i, h with
      | 0, h => exact h
      | 1, h => exact h
      | 2, h => exact h
      | 3, h => exact h
      | 4, h => exact h
      | 5, h => exact h
      | 6, h => exact h
      | 7, h => exact h
      | 8, h => exact h
      | 9, h => exact h
      | _ + 10, _ => trivial
    · exact fun w w' h h' => h.trans h'
    ·
      intro ac wx hE hsz hdf h
      have e1 : ac.tmps[1]? = some (.pointer (some ⟨gx, 0, none⟩)) := by obtain ⟨v, h1, h2⟩ := h 1 (by decide +kernel); exact h1.trans h2.symm
      clear h hsz hdf
      go_wp2
      exact ⟨_, rfl, rfl, Ext.refl _⟩
    ·
      intro ac wx hE hsz hdf h
      have e19 : ac.tmps[19]? = some (.pointer (some ⟨gx, 1, none⟩)) := by obtain ⟨v, h1, h2⟩ := h 19 (by decide +kernel); rw [h1]; exact congrArg some h2
      clear h hsz hdf
      have hb := HB.out.keep hE; have k1 := hb.cell 1
      go_wp2
      exact ⟨_, rfl, rfl, Ext.refl _⟩
    ·
      intro ac wx hE hsz hdf h
      have e20 : ac.tmps[20]? = some (.int .i64 x) := by obtain ⟨v, h1, h2⟩ := h 20 (by decide +kernel); rw [h1]; exact congrArg some h2
      clear h hsz hdf
      go_wp2_with ((go_at_call 53; refine (HIX.out wx (HP.out.keep hE)).mono ?_; rintro e wz ⟨rfl, hxz⟩))
      exact ⟨_, rfl, rfl, hxz⟩
    ·
      intro ac wx hE hsz hdf h
      have e21 : ac.tmps[21]? = some (.string ⟨DX.toArray⟩) := by obtain ⟨v, h1, h2⟩ := h 21 (by decide +kernel); rw [h1]; exact congrArg some h2
      clear h hsz hdf
      have hl := HL.out; have hm : ¬ 9223372036854775807 < 6 + DX.length := (by omega); have hm2 : ¬ 9223372036854775807 < DX.length + 6 := (by omega)
      go_wp2
      exact ⟨_, rfl, rfl, Ext.refl _⟩
    ·
      intro ac wx hE hsz hdf h
      have e22 : ac.tmps[22]? = some (.string ⟨([115, 112, 108, 105, 116, 32] ++ DX).toArray⟩) := by obtain ⟨v, h1, h2⟩ := h 22 (by decide +kernel); rw [h1]; exact congrArg some h2
      clear h hsz hdf
      have hl := HL.out; have hm : ¬ 9223372036854775807 < 6 + DX.length + 1 := (by omega); have hm2 : ¬ 9223372036854775807 < DX.length + 6 + 1 := (by omega); have hm3 : ¬ 9223372036854775807 < 6 + (DX.length + 1) := (by omega); have hm4 : ¬ 9223372036854775807 < DX.length + 1 + 6 := (by omega); have hm5 : ¬ 9223372036854775807 < DX.length + 7 := (by omega)
      go_wp2
      exact ⟨_, rfl, rfl, Ext.refl _⟩
    ·
      intro ac wx hE hsz hdf h
      have e1 : ac.tmps[1]? = some (.pointer (some ⟨gx, 0, none⟩)) := by obtain ⟨v, h1, h2⟩ := h 1 (by decide +kernel); exact h1.trans h2.symm
      clear h hsz hdf
      go_wp2
      exact ⟨_, rfl, rfl, Ext.refl _⟩
    ·
      intro ac wx hE hsz hdf h
      have e24 : ac.tmps[24]? = some (.pointer (some ⟨gx, 2, none⟩)) := by obtain ⟨v, h1, h2⟩ := h 24 (by decide +kernel); rw [h1]; exact congrArg some h2
      clear h hsz hdf
      have hb := HB.out.keep hE; have k2 := hb.cell 2
      go_wp2
      exact ⟨_, rfl, rfl, Ext.refl _⟩
    ·
      intro ac wx hE hsz hdf h
      have e25 : ac.tmps[25]? = some (.int .i64 y) := by obtain ⟨v, h1, h2⟩ := h 25 (by decide +kernel); rw [h1]; exact congrArg some h2
      clear h hsz hdf
      go_wp2_with ((go_at_call 53; refine (HIY.out wx (HP.out.keep hE)).mono ?_; rintro e wz ⟨rfl, hxz⟩))
      exact ⟨_, rfl, rfl, hxz⟩
    ·
      intro ac wx hE hsz hdf h
      have e23 : ac.tmps[23]? = some (.string ⟨([115, 112, 108, 105, 116, 32] ++ DX ++ [32]).toArray⟩) := by obtain ⟨v, h1, h2⟩ := h 23 (by decide +kernel); rw [h1]; exact congrArg some h2
      have e26 : ac.tmps[26]? = some (.string ⟨DY.toArray⟩) := by obtain ⟨v, h1, h2⟩ := h 26 (by decide +kernel); rw [h1]; exact congrArg some h2
      clear h hsz hdf
      have hl := HL.out; have hm : ¬ 9223372036854775807 < DX.length + (1 + DY.length) + 6 := (by omega); have hm2 : ¬ 9223372036854775807 < DX.length + (DY.length + 1) + 6 := (by omega); have hm3 : ¬ 9223372036854775807 < DX.length + 7 + DY.length := (by omega)
      go_wp2
      exact ⟨_, rfl, rfl, Ext.refl _⟩
    ·
      intro ac wx hE hsz hdf h
      have e27 : ac.tmps[27]? = some (.string ⟨([115, 112, 108, 105, 116, 32] ++ DX ++ [32] ++ DY).toArray⟩) := by obtain ⟨v, h1, h2⟩ := h 27 (by decide +kernel); rw [h1]; exact congrArg some h2
      clear h hsz hdf
      go_wp2
      exact ⟨_, rfl, rfl, Ext.refl _⟩
    · intro ac w9 hE hsz hdf h hrest
      obtain ⟨v0, s0, g0⟩ := h 0 _ rfl
      have e0 := g0 19 rfl
      obtain rfl : v0 = .pointer (some ⟨gx, 1, none⟩) := s0
      obtain ⟨v1, s1, g1⟩ := h 1 _ rfl
      have e1 := g1 20 rfl
      obtain rfl : v1 = .int .i64 x := s1
      obtain ⟨v2, s2, g2⟩ := h 2 _ rfl
      have e2 := g2 21 rfl
      obtain rfl : v2 = .string ⟨DX.toArray⟩ := s2
      obtain ⟨v3, s3, g3⟩ := h 3 _ rfl
      have e3 := g3 22 rfl
      obtain rfl : v3 = .string ⟨([115, 112, 108, 105, 116, 32] ++ DX).toArray⟩ := s3
      obtain ⟨v4, s4, g4⟩ := h 4 _ rfl
      have e4 := g4 23 rfl
      obtain rfl : v4 = .string ⟨([115, 112, 108, 105, 116, 32] ++ DX ++ [32]).toArray⟩ := s4
      obtain ⟨v5, s5, g5⟩ := h 5 _ rfl
      have e5 := g5 24 rfl
      obtain rfl : v5 = .pointer (some ⟨gx, 2, none⟩) := s5
      obtain ⟨v6, s6, g6⟩ := h 6 _ rfl
      have e6 := g6 25 rfl
      obtain rfl : v6 = .int .i64 y := s6
      obtain ⟨v7, s7, g7⟩ := h 7 _ rfl
      have e7 := g7 26 rfl
      obtain rfl : v7 = .string ⟨DY.toArray⟩ := s7
      obtain ⟨v8, s8, g8⟩ := h 8 _ rfl
      have e8 := g8 27 rfl
      obtain rfl : v8 = .string ⟨([115, 112, 108, 105, 116, 32] ++ DX ++ [32] ++ DY).toArray⟩ := s8
      obtain ⟨v9, s9, g9⟩ := h 9 _ rfl
      have e9 := g9 2 rfl
      obtain rfl : v9 = .string ⟨([115, 112, 108, 105, 116, 32] ++ DX ++ [32] ++ DY).toArray⟩ := s9
      have ha := act_of [(19, .pointer (some ⟨gx, 1, none⟩)), (20, .int .i64 x), (21, .string ⟨DX.toArray⟩), (22, .string ⟨([115, 112, 108, 105, 116, 32] ++ DX).toArray⟩), (23, .string ⟨([115, 112, 108, 105, 116, 32] ++ DX ++ [32]).toArray⟩), (24, .pointer (some ⟨gx, 2, none⟩)), (25, .int .i64 y), (26, .string ⟨DY.toArray⟩), (27, .string ⟨([115, 112, 108, 105, 116, 32] ++ DX ++ [32] ++ DY).toArray⟩), (2, .string ⟨([115, 112, 108, 105, 116, 32] ++ DX ++ [32] ++ DY).toArray⟩)] rfl hsz hdf (by intro p hp; simp only [List.mem_cons, List.not_mem_nil, or_false] at hp; rcases hp with rfl | rfl | rfl | rfl | rfl | rfl | rfl | rfl | rfl | rfl <;> first | exact e0 | exact e1 | exact e2 | exact e3 | exact e4 | exact e5 | exact e6 | exact e7 | exact e8 | exact e9) hrest
      clear h hrest hsz hdf e0 e1 e2 e3 e4 e5 e6 e7 e8 e9 g0 g1 g2 g3 g4 g5 g6 g7 g8 g9
      subst ha
      simp only [List.foldl_cons, List.foldl_nil, Act.put, List.setIfInBounds_toArray, List.set_cons_succ, List.set_cons_zero]
      go_wp2
      go_ret
      exact ⟨rfl, Ext.trans HX.out hE⟩
  by_cases o4 : op = 4
  · subst o4
    have e : V = [115, 97, 118, 101, 32] ++ DN := by rw [← HV.out]; rfl
    subst e
    go_wp2_with (go_at_call 53; refine (HIN.out wa HP.out).mono ?_; rintro e w1 ⟨rfl, hx1⟩)
    go_ret
    exact ⟨rfl, Ext.trans HX.out hx1⟩
  by_cases o5 : op = 5
  · subst o5
    have e : V = [109, 97, 116, 99, 104] := by rw [← HV.out]; rfl
    subst e
    go_wp2
    go_ret
    exact ⟨rfl, HX.out⟩
  · have e : V = [63] := by rw [← HV.out, if_neg o1, if_neg o2, if_neg o3, if_neg o4, if_neg o5]
    subst e
    have n1 : (op == 1) = false := beq_eq_false_iff_ne.2 o1
    have n2 : (op == 2) = false := beq_eq_false_iff_ne.2 o2
    have n3 : (op == 3) = false := beq_eq_false_iff_ne.2 o3
    have n4 : (op == 4) = false := beq_eq_false_iff_ne.2 o4
    have n5 : (op == 5) = false := beq_eq_false_iff_ne.2 o5
    go_wp2
    go_ret
    exact ⟨rfl, HX.out⟩
end Go.Proofs.YtdhmfgaiomfodaaDoor
namespace Go.Proofs.YtdhmfgaiomfodaaDoor
open Go Go.RowKit
attribute [local irreducible] wd

structure LinesAt (w0 : World) (c : List Ins) (O : List (List UInt8)) : Prop where
  many : c.length ≤ 100000
  same : O.length = c.length
  each : ∀ j xi, c[j]? = some xi → ∃ D l, O[j]? = some (D ++ [32] ++ l) ∧ (∀ w : World, Ext w0 w → Calls Tryd.prog 54 #[.agg (insV xi).toArray] w fun e w' => e = .returned (.string ⟨l.toArray⟩) ∧ Ext w w') ∧ l.length ≤ 1000000 ∧ D.length ≤ 100 ∧ ∀ w : World, Ext w0 w → Calls Tryd.prog 53 #[.int .i64 (j : Nat)] w fun e w' => e = .returned (.string ⟨D.toArray⟩) ∧ Ext w w'
set_option maxHeartbeats 8000000 in
set_option maxRecDepth 20000 in
theorem nfLinesAt (c : List Ins) (O : List (List UInt8)) (A : Option Addr) (cc : Nat) (G : Int) (N : Nat) (hN : c.length = N) (w0 : World) (hL : LinesAt w0 c O) (hR : Rd w0 8 A N (codeV c)) :
    Calls Tryd.prog 23 #[.agg #[.slice A N cc, .int .i64 G]] w0 fun e w' => LinesR w0 N O e w' := by
  have hN5 : N ≤ 100000 := hN ▸ hL.many
  have hx0 := Ext.new1 w0 (.cells #[.slice A N cc, .int .i64 G] 32)
  have HX := Lib.hid hx0
  obtain ⟨B0, hB0⟩ : ∃ B0, w0.heap.size = B0 := ⟨_, rfl⟩
  have HP := Lib.hid (Blk.newA (w := w0) hB0 32 [.slice A N cc, .int .i64 G])
  have HR := Lib.hid (hR.keep hx0)
  have HB0 := Lib.hid hB0
  have b0 := HP.out.cell 0
  clear hx0 hR hB0
  go_enter Tryd.func23, Tryd.ntmps23
  go_upto_region 1 with fail
  rw [HB0.out]
  generalize w0.alloc (.cells _ 32) = wa at *
  obtain ⟨B1, hB1⟩ : ∃ B1, wa.heap.size = B1 := ⟨_, rfl⟩
  have HB1 := Lib.hid hB1
  clear hB1
  go_wp2
  go_loopg [3, 9] N (fun g ov iv wr => ∃ j : Nat, j ≤ N ∧ g = N - j ∧ iv = .int .i64 (j : Nat) ∧ wr.ownsRow B1 9 1 ov j (strsV (O.take j)) ∧ Ext wa wr)
  case atStart => exact ⟨0, by omega, rfl, rfl, World.ownsRow_nil _ _ _ _, Ext.refl _⟩
  case round =>
    obtain ⟨jq, hj4, rfl, rfl, hown, hx⟩ := hrel
    by_cases hlt : jq < N
    · obtain ⟨xi, hxi⟩ : ∃ xi, c[jq]? = some xi := ⟨_, List.getElem?_eq_getElem (show jq < c.length from hN ▸ hlt)⟩
      obtain ⟨D, lq, hout, hline, hlen, hdl, hit⟩ := hL.each jq xi hxi
      obtain ⟨oq, hoq⟩ : ∃ oq, D ++ [32] ++ lq = oq := ⟨_, rfl⟩
      rw [hoq] at hout
      obtain ⟨bA, oA, rfl, hcell⟩ := code_cellsN (c := c) (by rw [hN]; exact HR.out.keep hx) hxi
      have c0 : wr.cell? ⟨bA, oA + jq * 8, none⟩ = some (.int .i64 xi.op) := hcell 0 _ rfl
      have c1 : wr.cell? ⟨bA, oA + jq * 8 + 1, none⟩ = some (.int .i64 xi.x) := hcell 1 _ rfl
      have c2 : wr.cell? ⟨bA, oA + jq * 8 + 2, none⟩ = some (.int .i64 xi.y) := hcell 2 _ rfl
      have c3 : wr.cell? ⟨bA, oA + jq * 8 + 3, none⟩ = some (.int .i64 xi.n) := hcell 3 _ rfl
      have c4 : wr.cell? ⟨bA, oA + jq * 8 + 4, none⟩ = some (.int .u64 (wd xi.set 0 : Nat)) := hcell 4 _ rfl
      have c5 : wr.cell? ⟨bA, oA + jq * 8 + 5, none⟩ = some (.int .u64 (wd xi.set 1 : Nat)) := hcell 5 _ rfl
      have c6 : wr.cell? ⟨bA, oA + jq * 8 + 6, none⟩ = some (.int .u64 (wd xi.set 2 : Nat)) := hcell 6 _ rfl
      have c7 : wr.cell? ⟨bA, oA + jq * 8 + 7, none⟩ = some (.int .u64 (wd xi.set 3 : Nat)) := hcell 7 _ rfl
      have hlt' : (jq : Int) < (N : Int) := by omega
      have hw2 : IntKind.i64.wrap ((jq : Int) + 1) = (jq : Int) + 1 := wrap_id (by omega) (by omega)
      have HW2 := Lib.hid hw2
      have HLN := Lib.hid hline
      have HOQ := Lib.hid hoq
      have HTK := Lib.hid (show strsV (O.take (jq + 1)) = strsV (O.take jq) ++ [strV oq] by rw [List.take_add_one, hout]; simp [strsV])
      have HIT := Lib.hid hit
      have HDL := Lib.hid (And.intro hdl hlen)
      have HLT := Lib.hid (And.intro hlt hN5)
      have HOWN := Lib.hid hown
      have HXR := Lib.hid hx
      obtain ⟨A', c', rfl, _, _, _⟩ := own_rd hown
      clear hline hlen hout hit hdl hoq hcell hxi hlt hown hx hj4 hw2
      go_upto_region 5 with fail
      have hal := Ext.new1 wr (.cells (insV xi).toArray 64)
      obtain ⟨gx, hgx⟩ : ∃ gx, wr.heap.size = gx := ⟨_, rfl⟩
      have HXI := Lib.hid (Blk.newA (w := wr) hgx 64 (insV xi))
      have HOW := Lib.hid (own_ext HOWN.out hal)
      have HXB := Lib.hid (Ext.trans HXR.out hal)
      have HGX := Lib.hid (show ∀ y ∈ (Value.slice A' jq c').ownBlock.toList, y < gx from fun y hy => by have := (HOWN.out.lt y (by simpa using hy)).2; omega)
      unfold insV at hal HXI HOW HXB
      rw [hgx]
      clear hal hgx c0 c1 c2 c3 c4 c5 c6 c7
      generalize wr.alloc (.cells #[.int .i64 xi.op, .int .i64 xi.x, .int .i64 xi.y, .int .i64 xi.n, .int .u64 (wd xi.set 0 : Nat), .int .u64 (wd xi.set 1 : Nat), .int .u64 (wd xi.set 2 : Nat), .int .u64 (wd xi.set 3 : Nat)] 64) = wb at *
      have hgs : gx < wb.heap.size := Blk.lt HXI.out
      have HTB := Lib.hid (Ext.trans HX.out HXB.out)
      have HGT := Lib.hid (show ∀ y ∈ (Value.slice A' jq c').ownBlock.toList, w0.heap.size ≤ y from fun y hm => by have := (HOWN.out.lt y (by simpa using hm)).1; have := HB1.out; have := HX.out.size; omega)
      have HBW := Lib.hid (show B1 ≤ wb.heap.size from by have := HB1.out; have := HXB.out.size; omega)
      refine wp_region_dagQ (X := fun j => if j = 8 then (Value.slice A' jq c').ownBlock.toList else []) (XX := ((Value.slice A' jq c').ownBlock.toList)) (late := fun j => if j = 8 then [9] else []) (Pre := fun i w => (i = 8 → w.ownsRow B1 9 1 (.slice A' jq c') jq (strsV (O.take jq))) ∧ True) (w0 := wb) (Φ := fun i v w => match i with | 0 => (v = .slice A' jq c') | 1 => (v = .int .i64 (jq : Nat)) | 2 => (v = .string ⟨D.toArray⟩) | 3 => (v = .string ⟨(D ++ [32]).toArray⟩) | 4 => (v = .agg #[.int .i64 xi.op, .int .i64 xi.x, .int .i64 xi.y, .int .i64 xi.n, .int .u64 (wd xi.set 0 : Nat), .int .u64 (wd xi.set 1 : Nat), .int .u64 (wd xi.set 2 : Nat), .int .u64 (wd xi.set 3 : Nat)]) | 5 => (v = .string ⟨lq.toArray⟩) | 6 => (v = .string ⟨oq.toArray⟩) | 7 => (OneS wb.heap.size oq v w) | 8 => (OutV B1 O jq v w) | 9 => (OutV B1 O jq v w) | _ => True) (show Tryd.prog.follows .mixedOrders = true from Checked.mixed Tryd.checked) 25 rfl (by decide +kernel) ?_ ?_ ?_ ?_ ?_ ⟨?_, ?_, ?_, ?_, ?_, ?_, ?_, ?_, ?_, ?_, trivial⟩ ?_
      · intro j x hx
        by_cases hj8 : j = 8
        · subst hj8; have hx' : x ∈ (Value.slice A' jq c').ownBlock.toList := hx; first | exact hx' | (rw [List.mem_append]; first | exact .inl hx' | exact .inr hx')
        simp [hj8] at hx
      · intro j
        by_cases hj8 : j = 8
        · subst hj8; decide +kernel
        simp [hj8, lateOk]
      · intro i
        exact ⟨fun _ => own_ext HOW.out ((Below.refl _ _).drew), trivial⟩
      · intro i j w w' hij hnl h hc
        refine ⟨?_, trivial⟩
        · intro hi
          subst hi
          have hp := h.1 rfl
          have hc' : Chg [] w w' := hc.mono (fun x hx => by
            by_cases hj8 : j = 8
            · exact absurd hj8 (by omega)
            simp [hj8] at hx)
          exact own_chg hp hc' (by simp)
      · intro i j v w w' hij hla h hc
        by_cases hj8 : j = 8
        · subst hj8
          have hc' : Chg (Value.slice A' jq c').ownBlock.toList w w' := hc
          match i, hij, hla, h with
          | 0, _, _, h => exact h
          | 1, _, _, h => exact h
          | 2, _, _, h => exact h
          | 3, _, _, h => exact h
          | 4, _, _, h => exact h
          | 5, _, _, h => exact h
          | 6, _, _, h => exact h
          | 7, _, _, h => exact (by obtain ⟨vb, g1, g2, g3⟩ := h; exact ⟨vb, g1, g2.chg hc' (fun hm => by have := HGX.out vb hm; omega), g3⟩)
          | 8, hij, _, _ => exact absurd rfl hij
          | 9, _, hla, _ => exact absurd (by decide) hla
          | _ + 10, _, _, _ => trivial
        have hc0 : Chg [] w w' := by simpa [hj8] using hc
        have hE : Ext w w' := hc0.ext (by simp)
        match i, h with
        | 0, h => exact h
        | 1, h => exact h
        | 2, h => exact h
        | 3, h => exact h
        | 4, h => exact h
        | 5, h => exact h
        | 6, h => exact h
        | 7, h => exact (by obtain ⟨vb, g1, g2, g3⟩ := h; exact ⟨vb, g1, g2.keep hE, g3⟩)
        | 8, h => exact (by obtain ⟨A9, c9, g1, g2⟩ := h; exact ⟨A9, c9, g1, own_ext g2 hE⟩)
        | 9, h => exact (by obtain ⟨A9, c9, g1, g2⟩ := h; exact ⟨A9, c9, g1, own_ext g2 hE⟩)
        | _ + 10, _ => trivial
      ·
        intro ac wx hE hP hsz hdf h
        have e3 : ac.tmps[3]? = some (.slice A' jq c') := by obtain ⟨v, h1, h2⟩ := h 3 (by decide +kernel); exact h1.trans h2.symm
        clear h hsz hdf
        go_wp2
        exact ⟨_, rfl, rfl, Chg.refl _ _⟩
      ·
        intro ac wx hE hP hsz hdf h
        have e4 : ac.tmps[4]? = some (.int .i64 (jq : Nat)) := by obtain ⟨v, h1, h2⟩ := h 4 (by decide +kernel); exact h1.trans h2.symm
        clear h hsz hdf
        go_wp2
        exact ⟨_, rfl, rfl, Chg.refl _ _⟩
      ·
        intro ac wx hE hP hsz hdf h
        have e15 : ac.tmps[15]? = some (.int .i64 (jq : Nat)) := by obtain ⟨v, h1, h2⟩ := h 15 (by decide +kernel); rw [h1]; exact congrArg some h2
        clear h hsz hdf
        go_wp2_with ((go_at_call 53; refine (HIT.out wx (Chg.below hE HTB.out HTB.out.size HGT.out)).mono ?_; rintro e w2 ⟨rfl, hx2⟩))
        exact ⟨_, rfl, rfl, .of_ext hx2⟩
      ·
        intro ac wx hE hP hsz hdf h
        have e16 : ac.tmps[16]? = some (.string ⟨D.toArray⟩) := by obtain ⟨v, h1, h2⟩ := h 16 (by decide +kernel); rw [h1]; exact congrArg some h2
        clear h hsz hdf
        have hm : ¬ 9223372036854775807 < D.length + 1 := by have := HDL.out.1; omega
        go_wp2
        exact ⟨_, rfl, rfl, Chg.refl _ _⟩
      ·
        intro ac wx hE hP hsz hdf h
        have e5 : ac.tmps[5]? = some (.pointer (some ⟨gx, 0, none⟩)) := by obtain ⟨v, h1, h2⟩ := h 5 (by decide +kernel); exact h1.trans h2.symm
        clear h hsz hdf
        have hb := HXI.out.chg hE (fun hm => by have := HGX.out gx hm; omega); have y0 := hb.cell 0; have y1 := hb.cell 1; have y2 := hb.cell 2; have y3 := hb.cell 3; have y4 := hb.cell 4; have y5 := hb.cell 5; have y6 := hb.cell 6; have y7 := hb.cell 7
        go_wp2
        exact ⟨_, rfl, rfl, Chg.refl _ _⟩
      ·
        intro ac wx hE hP hsz hdf h
        have e18 : ac.tmps[18]? = some (.agg #[.int .i64 xi.op, .int .i64 xi.x, .int .i64 xi.y, .int .i64 xi.n, .int .u64 (wd xi.set 0 : Nat), .int .u64 (wd xi.set 1 : Nat), .int .u64 (wd xi.set 2 : Nat), .int .u64 (wd xi.set 3 : Nat)]) := by obtain ⟨v, h1, h2⟩ := h 18 (by decide +kernel); rw [h1]; exact congrArg some h2
        clear h hsz hdf
        skip
        go_wp2_with ((go_at_call 54; refine (HLN.out wx (Chg.below hE HTB.out HTB.out.size HGT.out)).mono ?_; rintro e w2 ⟨rfl, hx2⟩))
        exact ⟨_, rfl, rfl, .of_ext hx2⟩
      ·
        intro ac wx hE hP hsz hdf h
        have e17 : ac.tmps[17]? = some (.string ⟨(D ++ [32]).toArray⟩) := by obtain ⟨v, h1, h2⟩ := h 17 (by decide +kernel); rw [h1]; exact congrArg some h2
        have e19 : ac.tmps[19]? = some (.string ⟨lq.toArray⟩) := by obtain ⟨v, h1, h2⟩ := h 19 (by decide +kernel); rw [h1]; exact congrArg some h2
        clear h hsz hdf
        have hm : ¬ 9223372036854775807 < D.length + 1 + lq.length := by have := HDL.out.1; have := HDL.out.2; omega
        go_wp2
        exact ⟨_, rfl, by rw [← HOQ.out]; simp, Chg.refl _ _⟩
      ·
        intro ac wx hE hP hsz hdf h
        have e20 : ac.tmps[20]? = some (.string ⟨oq.toArray⟩) := by obtain ⟨v, h1, h2⟩ := h 20 (by decide +kernel); rw [h1]; exact congrArg some h2
        clear h hsz hdf
        have hsz8 := hE.size
        go_wp2
        exact ⟨_, rfl, ⟨_, rfl, Blk.newL wx 9 [strV oq], hsz8⟩, .of_ext (Ext.new1 _ _)⟩
      ·
        intro ac wx hE hP hsz hdf h
        have e14 : ac.tmps[14]? = some (.slice A' jq c') := by obtain ⟨v, h1, h2⟩ := h 14 (by decide +kernel); rw [h1]; exact congrArg some h2
        obtain ⟨v21, e21, s21⟩ : ∃ v, ac.tmps[21]? = some v ∧ (OneS wb.heap.size oq v wx) := h 21 (by decide +kernel)
        clear h hsz hdf
        obtain ⟨vb, rfl, hvb8, hvb9⟩ := s21; have ho8 := hP.1 rfl; have hsz8 := hE.size
        go_wp2_with ((refine wpList_app2 Tryd.elemS rfl (.tmp 14) (.tmp 21) rfl (v := .slice A' jq c') (n := jq) (xs := strsV (O.take jq)) (by simp [Act.eval, e14]) ho8 (by have := HBW.out; omega) (A := some ⟨vb, 0, none⟩) (m := 1) (c := 1) (news := [strV oq]) (by simp [Act.eval, e21]) (by have := Blk.rd (n := 1) (size := 1) hvb8 0 (by simp); simpa using this) (one_one rfl) (by have := HLT.out; omega) (by have := HLT.out; unfold maxLen; omega) ?_; intro v9 w9 hown9 hgr9 _ _))
        obtain ⟨A9, c9, e9, _, _, _⟩ := own_rd hown9; exact ⟨_, rfl, ⟨A9, c9, e9, by rw [← HTK.out] at hown9; exact hown9⟩, ⟨hgr9.by_.os, hgr9.by_.tape, hgr9.by_.output, hgr9.by_.size, fun k hk hkn => hgr9.by_.block k hk (fun e => hkn (by simp [← e]))⟩⟩
      ·
        intro ac wx hE hP hsz hdf h
        obtain ⟨v22, e22, s22⟩ : ∃ v, ac.tmps[22]? = some v ∧ (OutV B1 O jq v wx) := h 22 (by decide +kernel)
        clear h hsz hdf
        obtain ⟨A9, c9, rfl, ho9⟩ := s22
        go_wp2
        exact ⟨_, rfl, ⟨A9, c9, rfl, ho9⟩, Chg.refl _ _⟩
      · intro ac w9 hE hsz hdf h hrest
        obtain ⟨v0, s0, g0⟩ := h 0 _ rfl
        have e0 := g0 14 rfl
        obtain rfl : v0 = .slice A' jq c' := s0
        obtain ⟨v1, s1, g1⟩ := h 1 _ rfl
        have e1 := g1 15 rfl
        obtain rfl : v1 = .int .i64 (jq : Nat) := s1
        obtain ⟨v2, s2, g2⟩ := h 2 _ rfl
        have e2 := g2 16 rfl
        obtain rfl : v2 = .string ⟨D.toArray⟩ := s2
        obtain ⟨v3, s3, g3⟩ := h 3 _ rfl
        have e3 := g3 17 rfl
        obtain rfl : v3 = .string ⟨(D ++ [32]).toArray⟩ := s3
        obtain ⟨v4, s4, g4⟩ := h 4 _ rfl
        have e4 := g4 18 rfl
        obtain rfl : v4 = .agg #[.int .i64 xi.op, .int .i64 xi.x, .int .i64 xi.y, .int .i64 xi.n, .int .u64 (wd xi.set 0 : Nat), .int .u64 (wd xi.set 1 : Nat), .int .u64 (wd xi.set 2 : Nat), .int .u64 (wd xi.set 3 : Nat)] := s4
        obtain ⟨v5, s5, g5⟩ := h 5 _ rfl
        have e5 := g5 19 rfl
        obtain rfl : v5 = .string ⟨lq.toArray⟩ := s5
        obtain ⟨v6, s6, g6⟩ := h 6 _ rfl
        have e6 := g6 20 rfl
        obtain rfl : v6 = .string ⟨oq.toArray⟩ := s6
        obtain ⟨v7, s7, g7⟩ := h 7 _ rfl
        have e7 := g7 21 rfl
        replace s7 : OneS wb.heap.size oq v7 w9 := s7
        obtain ⟨v8, s8, g8⟩ := h 8 _ rfl
        have e8 := g8 22 rfl
        replace s8 : OutV B1 O jq v8 w9 := s8
        obtain ⟨v9, s9, g9⟩ := h 9 _ rfl
        have e9 := g9 3 rfl
        replace s9 : OutV B1 O jq v9 w9 := s9
        have ha := act_of [(14, .slice A' jq c'), (15, .int .i64 (jq : Nat)), (16, .string ⟨D.toArray⟩), (17, .string ⟨(D ++ [32]).toArray⟩), (18, .agg #[.int .i64 xi.op, .int .i64 xi.x, .int .i64 xi.y, .int .i64 xi.n, .int .u64 (wd xi.set 0 : Nat), .int .u64 (wd xi.set 1 : Nat), .int .u64 (wd xi.set 2 : Nat), .int .u64 (wd xi.set 3 : Nat)]), (19, .string ⟨lq.toArray⟩), (20, .string ⟨oq.toArray⟩), (21, v7), (22, v8), (3, v9)] rfl hsz hdf (by intro p hp; simp only [List.mem_cons, List.not_mem_nil, or_false] at hp; rcases hp with rfl | rfl | rfl | rfl | rfl | rfl | rfl | rfl | rfl | rfl <;> first | exact e0 | exact e1 | exact e2 | exact e3 | exact e4 | exact e5 | exact e6 | exact e7 | exact e8 | exact e9) hrest
        clear h hrest hsz hdf e0 e1 e2 e3 e4 e5 e6 e7 e8 e9 g0 g1 g2 g3 g4 g5 g6 g7 g8 g9
        subst ha
        simp only [List.foldl_cons, List.foldl_nil, Act.put, List.setIfInBounds_toArray, List.set_cons_succ, List.set_cons_zero]
        obtain ⟨A9, c9, rfl, ho9⟩ := s9
        have HX9 := Lib.hid (show Ext wa w9 from ((Chg.of_ext HXB.out).trans hE).ext (fun y hy => by have := (HOWN.out.lt y (by simpa using hy)).1; have := HB1.out; omega))
        have HO9 := Lib.hid ho9
        have hw2 := HW2.out
        clear ho9 hE s7 s8
        go_wp2
        go_roundg (N - (jq + 1))
        case measure => omega
        case rel => exact ⟨jq + 1, by have := HLT.out; omega, rfl, by go_num, HO9.out, HX9.out⟩
    · obtain rfl : jq = N := by omega
      have hlt' : ¬ (jq : Int) < (jq : Int) := by omega
      have HOWN := Lib.hid hown
      have HXR := Lib.hid hx
      obtain ⟨A', c', rfl, _, _, hrd⟩ := own_rd hown
      have HRD := Lib.hid hrd
      clear hown hx hrd
      go_wp2
      go_ret
      refine ⟨A', c', rfl, ?_, Ext.trans HX.out HXR.out⟩
      have h2 := HRD.out
      rw [List.take_of_length_le (by rw [hL.same, hN]; exact Nat.le_refl _)] at h2
      exact h2
end Go.Proofs.YtdhmfgaiomfodaaDoor
namespace Go.Proofs.YtdhmfgaiomfodaaDoor
open Go Go.RowKit
attribute [local irreducible] wd

theorem IB.setR {w : World} {g : Nat} {i : Ins} (h : IB w g i) : w.rangeAt g 4 (bcs i.set).toList := fun j v hv => by
  have hj : j < 256 := by
    have := (List.getElem?_eq_some_iff.1 hv).1
    rwa [Array.length_toList, bcs_size] at this
  have hb := bcs_get i.set hj
  rw [← Array.getElem?_toList, hv] at hb
  cases hb
  exact h.set hj
theorem load_dis {ops : Array Oper} {rest : List Oper} {o : Oper} {a : Act} {w : World} {Q : Exit → Act → World → Prop} (hgd : o.guard = none) (x : Operand) (ho : o.op = .load 45 x)
    {g : Nat} {i : Ins} (hx : a.eval x = .pointer (some ⟨g, 4, none⟩)) (hg : IB w g i)
    (h : wpList Tryd.prog ops Q rest (a.put o.dst (bp i.set)) w) : wpList Tryd.prog ops Q (o :: rest) a w :=
  wpList_load_mid hgd _ x ho g 4 hx _ _ hg.setR Tryd.underlying45 rfl (by rw [Array.length_toList, bcs_size]; exact set_size) (by rw [Array.toArray_toList]; exact h)

set_option maxHeartbeats 8000000 in
set_option maxRecDepth 20000 in
theorem refLine25 (k : Int) (hk : -9223372036854775808 ≤ k ∧ k ≤ 9223372036854775807) (ii : Ins) (hi : InsN ii) (w : World) :
    Calls Tryd.prog 20 #[.int .i64 k, .agg (diC ii).toArray] w fun e w' => e = .returned (.string ⟨(Lib.itoa k ++ [32] ++ lineT ii).toArray⟩) ∧ Ext w w' := by
  have hx := Ext.new1 w (.cells (diC ii).toArray 47)
  have HX := Lib.hid hx
  obtain ⟨gx, hgx⟩ : ∃ gx, w.heap.size = gx := ⟨_, rfl⟩
  have HB := Lib.hid (show IB (w.alloc (.cells (diC ii).toArray 47)) gx ii from hgx ▸ Blk.newL w _ _)
  have HG := Lib.hid hgx
  obtain ⟨V, hV⟩ : ∃ V, lineT ii = V := ⟨_, rfl⟩
  rw [hV]
  have h0 := Lib.itoa_length_le k hk.1 hk.2
  have h1 := text_len ii.set
  have h2 := Lib.itoa_length_le ii.x hi.1.1 hi.1.2
  have h3 := Lib.itoa_length_le ii.y hi.2.1.1 hi.2.1.2
  have h4 := Lib.itoa_length_le ii.n hi.2.2.1 hi.2.2.2
  have HIK := Lib.hid (fun (w : World) => figures k hk.1 hk.2 w)
  have HIX := Lib.hid (fun (w : World) => figures ii.x hi.1.1 hi.1.2 w)
  have HIN := Lib.hid (fun (w : World) => figures ii.n hi.2.2.1 hi.2.2.2 w)
  have HIY := Lib.hid (fun (w : World) => figures ii.y hi.2.1.1 hi.2.1.2 w)
  have HIS := Lib.hid (fun (w : World) => refText ii.set w)
  unfold lineT at hV
  generalize Lib.itoa k = DK at *
  generalize Lib.itoa ii.x = DX at *
  generalize Lib.itoa ii.y = DY at *
  generalize Lib.itoa ii.n = DN at *
  generalize textT ii.set = DS at *
  have HV := Lib.hid hV
  have HL := Lib.hid (And.intro h0 (And.intro h1 (And.intro h2 (And.intro h3 h4))))
  have hm : DK.length ≤ 21 := h0
  have hm1 : DS.length ≤ 3000 := h1
  have hm2 : DX.length ≤ 21 := h2
  have hm3 : DY.length ≤ 21 := h3
  have hm4 : DN.length ≤ 21 := h4
  clear hx hgx hV h0 h1 h2 h3 h4 hi hk
  go_enter Tryd.func20, Tryd.ntmps20
  go_upto_region 1 with fail
  rw [HG.out]
  generalize w.alloc (.cells _ 47) = wa at *
  have b0 : wa.cell? ⟨gx, 0, none⟩ = some (.int .i64 ii.op) := HB.out.op
  have b1 : wa.cell? ⟨gx, 1, none⟩ = some (.int .i64 ii.x) := HB.out.x
  have b2 : wa.cell? ⟨gx, 2, none⟩ = some (.int .i64 ii.y) := HB.out.y
  have b3 : wa.cell? ⟨gx, 3, none⟩ = some (.int .i64 ii.n) := HB.out.n
  by_cases o1 : ii.op = 1
  · rw [o1] at b0
    have e : V = [98, 121, 116, 101, 32] ++ DS := by rw [← HV.out, if_pos o1]
    subst e
    go_wp2_with (first
      | (go_at_call 52; refine (HIS.out wa).mono ?_; rintro e w1 ⟨rfl, hx1⟩)
      | (refine load_dis rfl (.tmp 15) rfl rfl HB.out ?_)
      | (go_at_call 51; refine (HIK.out wa).mono ?_; rintro e w1 ⟨rfl, hw1⟩; obtain rfl : wa = w1 := hw1.symm))
    go_ret
    exact ⟨by simp, Ext.trans HX.out hx1⟩
  by_cases o2 : ii.op = 2
  · rw [o2] at b0
    have e : V = [106, 117, 109, 112, 32] ++ DX := by rw [← HV.out, if_neg o1, if_pos o2]
    subst e
    go_wp2_with (first
      | (have := ht; go_at_call 51; refine (HIX.out wa).mono ?_; rintro e w1 ⟨rfl, hw1⟩; obtain rfl : wa = w1 := hw1.symm)
      | (go_at_call 51; refine (HIK.out wa).mono ?_; rintro e w1 ⟨rfl, hw1⟩; obtain rfl : wa = w1 := hw1.symm; have ht := True.intro))
    go_ret
    exact ⟨by simp, HX.out⟩
  by_cases o3 : ii.op = 3
  · rw [o3] at b0
    have e : V = [115, 112, 108, 105, 116, 32] ++ DX ++ [32] ++ DY := by rw [← HV.out, if_neg o1, if_neg o2, if_pos o3]
    subst e
    go_upto_region 8 with (go_at_call 51; refine (HIK.out wa).mono ?_; rintro e w1 ⟨rfl, hw1⟩; obtain rfl : wa = w1 := hw1.symm)
    clear b0 b1 b2 b3 hm hm1 hm2 hm3 hm4 o1 o2 o3
    refine wp_region_dag (E := Ext) (w0 := wa) (Φ := fun i v w => match i with | 0 => (v = .string ⟨(DK ++ [32]).toArray⟩) | 1 => (v = .string ⟨(DK ++ [32] ++ [115, 112, 108, 105, 116, 32]).toArray⟩) | 2 => (v = .pointer (some ⟨gx, 1, none⟩)) | 3 => (v = .int .i64 ii.x) | 4 => (v = .string ⟨DX.toArray⟩) | 5 => (v = .string ⟨(DK ++ [32] ++ [115, 112, 108, 105, 116, 32] ++ DX).toArray⟩) | 6 => (v = .string ⟨(DK ++ [32] ++ [115, 112, 108, 105, 116, 32] ++ DX ++ [32]).toArray⟩) | 7 => (v = .pointer (some ⟨gx, 2, none⟩)) | 8 => (v = .int .i64 ii.y) | 9 => (v = .string ⟨DY.toArray⟩) | 10 => (v = .string ⟨(DK ++ [32] ++ [115, 112, 108, 105, 116, 32] ++ DX ++ [32] ++ DY).toArray⟩) | 11 => (v = .string ⟨(DK ++ [32] ++ [115, 112, 108, 105, 116, 32] ++ DX ++ [32] ++ DY).toArray⟩) | _ => True) (show Tryd.prog.follows .mixedOrders = true from Checked.mixed Tryd.checked) 54 rfl (by decide +kernel) ?_ ((Below.refl _ _).drew) ?_ ⟨?_, ?_, ?_, ?_, ?_, ?_, ?_, ?_, ?_, ?_, ?_, ?_, trivial⟩ ?_
    · intro i v w w' h hE
      match i, h with
      | 0, h => exact h
      | 1, h => exact h
      | 2, h => exact h
      | 3, h => exact h
      | 4, h => exact h
      | 5, h => exact h
      | 6, h => exact h
      | 7, h => exact h
      | 8, h => exact h
      | 9, h => exact h
      | 10, h => exact h
      | 11, h => exact h
      | _ + 12, _ => trivial
    · exact fun w w' h h' => h.trans h'
    ·
      intro ac wx hE hsz hdf h
      have e5 : ac.tmps[5]? = some (.string ⟨(DK ++ [32]).toArray⟩) := by obtain ⟨v, h1, h2⟩ := h 5 (by decide +kernel); exact h1.trans h2.symm
      clear h hsz hdf
      go_wp2
      exact ⟨_, rfl, (by first | rfl | (simp; done)), Ext.refl _⟩
    ·
      intro ac wx hE hsz hdf h
      have e29 : ac.tmps[29]? = some (.string ⟨(DK ++ [32]).toArray⟩) := by obtain ⟨v, h1, h2⟩ := h 29 (by decide +kernel); rw [h1]; exact congrArg some h2
      clear h hsz hdf
      obtain ⟨hm, hm1, hm2, hm3, hm4⟩ := HL.out
      go_wp2
      exact ⟨_, rfl, (by first | rfl | (simp; done)), Ext.refl _⟩
    ·
      intro ac wx hE hsz hdf h
      have e3 : ac.tmps[3]? = some (.pointer (some ⟨gx, 0, none⟩)) := by obtain ⟨v, h1, h2⟩ := h 3 (by decide +kernel); exact h1.trans h2.symm
      clear h hsz hdf
      go_wp2
      exact ⟨_, rfl, rfl, Ext.refl _⟩
    ·
      intro ac wx hE hsz hdf h
      have e31 : ac.tmps[31]? = some (.pointer (some ⟨gx, 1, none⟩)) := by obtain ⟨v, h1, h2⟩ := h 31 (by decide +kernel); rw [h1]; exact congrArg some h2
      clear h hsz hdf
      have k1 : wx.cell? ⟨gx, 1, none⟩ = some (.int .i64 ii.x) := (HB.out.keep hE).x
      go_wp2
      exact ⟨_, rfl, rfl, Ext.refl _⟩
    ·
      intro ac wx hE hsz hdf h
      have e32 : ac.tmps[32]? = some (.int .i64 ii.x) := by obtain ⟨v, h1, h2⟩ := h 32 (by decide +kernel); rw [h1]; exact congrArg some h2
      clear h hsz hdf
      go_wp2_with ((go_at_call 51; refine (HIX.out wx).mono ?_; rintro e wz ⟨rfl, hwz⟩; obtain rfl : wx = wz := hwz.symm))
      exact ⟨_, rfl, rfl, Ext.refl _⟩
    ·
      intro ac wx hE hsz hdf h
      have e30 : ac.tmps[30]? = some (.string ⟨(DK ++ [32] ++ [115, 112, 108, 105, 116, 32]).toArray⟩) := by obtain ⟨v, h1, h2⟩ := h 30 (by decide +kernel); rw [h1]; exact congrArg some h2
      have e33 : ac.tmps[33]? = some (.string ⟨DX.toArray⟩) := by obtain ⟨v, h1, h2⟩ := h 33 (by decide +kernel); rw [h1]; exact congrArg some h2
      clear h hsz hdf
      obtain ⟨hm, hm1, hm2, hm3, hm4⟩ := HL.out
      go_wp2
      exact ⟨_, rfl, (by first | rfl | (simp; done)), Ext.refl _⟩
    ·
      intro ac wx hE hsz hdf h
      have e34 : ac.tmps[34]? = some (.string ⟨(DK ++ [32] ++ [115, 112, 108, 105, 116, 32] ++ DX).toArray⟩) := by obtain ⟨v, h1, h2⟩ := h 34 (by decide +kernel); rw [h1]; exact congrArg some h2
      clear h hsz hdf
      obtain ⟨hm, hm1, hm2, hm3, hm4⟩ := HL.out
      go_wp2
      exact ⟨_, rfl, (by first | rfl | (simp; done)), Ext.refl _⟩
    ·
      intro ac wx hE hsz hdf h
      have e3 : ac.tmps[3]? = some (.pointer (some ⟨gx, 0, none⟩)) := by obtain ⟨v, h1, h2⟩ := h 3 (by decide +kernel); exact h1.trans h2.symm
      clear h hsz hdf
      go_wp2
      exact ⟨_, rfl, rfl, Ext.refl _⟩
    ·
      intro ac wx hE hsz hdf h
      have e36 : ac.tmps[36]? = some (.pointer (some ⟨gx, 2, none⟩)) := by obtain ⟨v, h1, h2⟩ := h 36 (by decide +kernel); rw [h1]; exact congrArg some h2
      clear h hsz hdf
      have k2 : wx.cell? ⟨gx, 2, none⟩ = some (.int .i64 ii.y) := (HB.out.keep hE).y
      go_wp2
      exact ⟨_, rfl, rfl, Ext.refl _⟩
    ·
      intro ac wx hE hsz hdf h
      have e37 : ac.tmps[37]? = some (.int .i64 ii.y) := by obtain ⟨v, h1, h2⟩ := h 37 (by decide +kernel); rw [h1]; exact congrArg some h2
      clear h hsz hdf
      go_wp2_with ((go_at_call 51; refine (HIY.out wx).mono ?_; rintro e wz ⟨rfl, hwz⟩; obtain rfl : wx = wz := hwz.symm))
      exact ⟨_, rfl, rfl, Ext.refl _⟩
    ·
      intro ac wx hE hsz hdf h
      have e35 : ac.tmps[35]? = some (.string ⟨(DK ++ [32] ++ [115, 112, 108, 105, 116, 32] ++ DX ++ [32]).toArray⟩) := by obtain ⟨v, h1, h2⟩ := h 35 (by decide +kernel); rw [h1]; exact congrArg some h2
      have e38 : ac.tmps[38]? = some (.string ⟨DY.toArray⟩) := by obtain ⟨v, h1, h2⟩ := h 38 (by decide +kernel); rw [h1]; exact congrArg some h2
      clear h hsz hdf
      obtain ⟨hm, hm1, hm2, hm3, hm4⟩ := HL.out
      go_wp2
      exact ⟨_, rfl, (by first | rfl | (simp; done)), Ext.refl _⟩
    ·
      intro ac wx hE hsz hdf h
      have e39 : ac.tmps[39]? = some (.string ⟨(DK ++ [32] ++ [115, 112, 108, 105, 116, 32] ++ DX ++ [32] ++ DY).toArray⟩) := by obtain ⟨v, h1, h2⟩ := h 39 (by decide +kernel); rw [h1]; exact congrArg some h2
      clear h hsz hdf
      go_wp2
      exact ⟨_, rfl, (by first | rfl | (simp; done)), Ext.refl _⟩
    · intro ac w9 hE hsz hdf h hrest
      obtain ⟨v0, s0, g0⟩ := h 0 _ rfl
      have e0 := g0 29 rfl
      obtain rfl : v0 = .string ⟨(DK ++ [32]).toArray⟩ := s0
      obtain ⟨v1, s1, g1⟩ := h 1 _ rfl
      have e1 := g1 30 rfl
      obtain rfl : v1 = .string ⟨(DK ++ [32] ++ [115, 112, 108, 105, 116, 32]).toArray⟩ := s1
      obtain ⟨v2, s2, g2⟩ := h 2 _ rfl
      have e2 := g2 31 rfl
      obtain rfl : v2 = .pointer (some ⟨gx, 1, none⟩) := s2
      obtain ⟨v3, s3, g3⟩ := h 3 _ rfl
      have e3 := g3 32 rfl
      obtain rfl : v3 = .int .i64 ii.x := s3
      obtain ⟨v4, s4, g4⟩ := h 4 _ rfl
      have e4 := g4 33 rfl
      obtain rfl : v4 = .string ⟨DX.toArray⟩ := s4
      obtain ⟨v5, s5, g5⟩ := h 5 _ rfl
      have e5 := g5 34 rfl
      obtain rfl : v5 = .string ⟨(DK ++ [32] ++ [115, 112, 108, 105, 116, 32] ++ DX).toArray⟩ := s5
      obtain ⟨v6, s6, g6⟩ := h 6 _ rfl
      have e6 := g6 35 rfl
      obtain rfl : v6 = .string ⟨(DK ++ [32] ++ [115, 112, 108, 105, 116, 32] ++ DX ++ [32]).toArray⟩ := s6
      obtain ⟨v7, s7, g7⟩ := h 7 _ rfl
      have e7 := g7 36 rfl
      obtain rfl : v7 = .pointer (some ⟨gx, 2, none⟩) := s7
      obtain ⟨v8, s8, g8⟩ := h 8 _ rfl
      have e8 := g8 37 rfl
      obtain rfl : v8 = .int .i64 ii.y := s8
      obtain ⟨v9, s9, g9⟩ := h 9 _ rfl
      have e9 := g9 38 rfl
      obtain rfl : v9 = .string ⟨DY.toArray⟩ := s9
      obtain ⟨v10, s10, g10⟩ := h 10 _ rfl
      have e10 := g10 39 rfl
      obtain rfl : v10 = .string ⟨(DK ++ [32] ++ [115, 112, 108, 105, 116, 32] ++ DX ++ [32] ++ DY).toArray⟩ := s10
      obtain ⟨v11, s11, g11⟩ := h 11 _ rfl
      have e11 := g11 4 rfl
      obtain rfl : v11 = .string ⟨(DK ++ [32] ++ [115, 112, 108, 105, 116, 32] ++ DX ++ [32] ++ DY).toArray⟩ := s11
      have ha := act_of [(29, .string ⟨(DK ++ [32]).toArray⟩), (30, .string ⟨(DK ++ [32] ++ [115, 112, 108, 105, 116, 32]).toArray⟩), (31, .pointer (some ⟨gx, 1, none⟩)), (32, .int .i64 ii.x), (33, .string ⟨DX.toArray⟩), (34, .string ⟨(DK ++ [32] ++ [115, 112, 108, 105, 116, 32] ++ DX).toArray⟩), (35, .string ⟨(DK ++ [32] ++ [115, 112, 108, 105, 116, 32] ++ DX ++ [32]).toArray⟩), (36, .pointer (some ⟨gx, 2, none⟩)), (37, .int .i64 ii.y), (38, .string ⟨DY.toArray⟩), (39, .string ⟨(DK ++ [32] ++ [115, 112, 108, 105, 116, 32] ++ DX ++ [32] ++ DY).toArray⟩), (4, .string ⟨(DK ++ [32] ++ [115, 112, 108, 105, 116, 32] ++ DX ++ [32] ++ DY).toArray⟩)] rfl hsz hdf (by intro p hp; simp only [List.mem_cons, List.not_mem_nil, or_false] at hp; rcases hp with rfl | rfl | rfl | rfl | rfl | rfl | rfl | rfl | rfl | rfl | rfl | rfl <;> first | exact e0 | exact e1 | exact e2 | exact e3 | exact e4 | exact e5 | exact e6 | exact e7 | exact e8 | exact e9 | exact e10 | exact e11) hrest
      clear h hrest hsz hdf e0 e1 e2 e3 e4 e5 e6 e7 e8 e9 e10 e11 g0 g1 g2 g3 g4 g5 g6 g7 g8 g9 g10 g11
      subst ha
      simp only [List.foldl_cons, List.foldl_nil, Act.put, List.setIfInBounds_toArray, List.set_cons_succ, List.set_cons_zero]
      go_wp2
      go_ret
      exact ⟨by simp, Ext.trans HX.out hE⟩
  by_cases o4 : ii.op = 4
  · rw [o4] at b0
    have e : V = [115, 97, 118, 101, 32] ++ DN := by rw [← HV.out, if_neg o1, if_neg o2, if_neg o3, if_pos o4]
    subst e
    go_wp2_with (first
      | (have := ht; go_at_call 51; refine (HIN.out wa).mono ?_; rintro e w1 ⟨rfl, hw1⟩; obtain rfl : wa = w1 := hw1.symm)
      | (go_at_call 51; refine (HIK.out wa).mono ?_; rintro e w1 ⟨rfl, hw1⟩; obtain rfl : wa = w1 := hw1.symm; have ht := True.intro))
    go_ret
    exact ⟨by simp, HX.out⟩
  by_cases o5 : ii.op = 5
  · rw [o5] at b0
    have e : V = [109, 97, 116, 99, 104] := by rw [← HV.out, if_neg o1, if_neg o2, if_neg o3, if_neg o4, if_pos o5]
    subst e
    go_wp2_with (go_at_call 51; refine (HIK.out wa).mono ?_; rintro e w1 ⟨rfl, hw1⟩; obtain rfl : wa = w1 := hw1.symm)
    go_ret
    exact ⟨by simp, HX.out⟩
  · have e : V = [63] := by rw [← HV.out, if_neg o1, if_neg o2, if_neg o3, if_neg o4, if_neg o5]
    subst e
    have n1 : (ii.op == 1) = false := beq_eq_false_iff_ne.2 o1
    have n2 : (ii.op == 2) = false := beq_eq_false_iff_ne.2 o2
    have n3 : (ii.op == 3) = false := beq_eq_false_iff_ne.2 o3
    have n4 : (ii.op == 4) = false := beq_eq_false_iff_ne.2 o4
    have n5 : (ii.op == 5) = false := beq_eq_false_iff_ne.2 o5
    go_wp2_with (go_at_call 51; refine (HIK.out wa).mono ?_; rintro e w1 ⟨rfl, hw1⟩; obtain rfl : wa = w1 := hw1.symm)
    go_ret
    exact ⟨by simp, HX.out⟩
end Go.Proofs.YtdhmfgaiomfodaaDoor
namespace Go.Proofs.YtdhmfgaiomfodaaDoor
open Go Go.RowKit
attribute [local irreducible] wd

def eqUp (c d : List Ins) (j : Nat) : Bool := (List.range j).all fun i => match c[i]?, d[i]? with
  | some x, some y => insEqB x y
  | _, _ => false
theorem eqUp_step {c d : List Ins} {j : Nat} {x y : Ins} (hx : c[j]? = some x) (hy : d[j]? = some y) : eqUp c d (j + 1) = (eqUp c d j && insEqB x y) := by
  unfold eqUp
  rw [List.range_succ, List.all_append]
  simp [hx, hy]
theorem eqUp_cons (x y : Ins) (c d : List Ins) (j : Nat) : eqUp (x :: c) (y :: d) (j + 1) = (insEqB x y && eqUp c d j) := by
  unfold eqUp
  rw [List.range_succ_eq_map, List.all_cons, List.all_map]
  simp only [List.getElem?_cons_zero]
  congr 1
theorem eqCode_up : ∀ (c d : List Ins), c.length = d.length → eqCode c d = eqUp c d c.length
  | [], [], _ => rfl
  | x :: c, y :: d, h => by
    rw [List.length_cons, eqUp_cons, eqCode, eqCode_up c d (by simpa using h)]
def linesO (c : List Ins) : List (List UInt8) := c.mapIdx fun j x => Lib.itoa (j : Int) ++ [32] ++ lineT x
theorem linesO_get {c : List Ins} {j : Nat} {x : Ins} (h : c[j]? = some x) : (linesO c)[j]? = some (Lib.itoa (j : Int) ++ [32] ++ lineT x) := by
  unfold linesO
  rw [List.getElem?_mapIdx, h]
  rfl
theorem linesO_len (c : List Ins) : (linesO c).length = c.length := by simp [linesO]
theorem linesO_at (c : List Ins) (hc : ∀ i ∈ c, InsN i) (hl : c.length ≤ 100000) (w : World) (hT : Tab w) (hP : PTab w) : LinesAt w c (linesO c) where
  many := hl
  same := linesO_len c
  each := fun j xi h => by
    have hi := hc xi (List.mem_of_getElem? h)
    have hj := (List.getElem?_eq_some_iff.1 h).1
    have hr : -9223372036854775808 ≤ (j : Int) ∧ (j : Int) ≤ 9223372036854775807 := ⟨by omega, by omega⟩
    have h1 := Lib.itoa_length_le (j : Int) hr.1 hr.2
    have h2 := lineT_len xi hi
    exact ⟨Lib.itoa (j : Int), lineT xi, linesO_get h, fun w' hx => nfLineAny xi hi w' (hT.keep hx) (hP.keep hx), by omega, by omega, fun w' hx => itoaAny (j : Int) hr w' (hP.keep hx)⟩

theorem wpList_load_run {P : Program} {ops : Array Oper} {o : Oper} {a : Act} {w : World} {Q : Exit → Act → World → Prop} {j : Nat} {want : Bool} (hg : o.guard = some (j, want)) {d : Tmp} (hd : (ops[j]?).bind (·.dst) = some d) (hv : a.tmps[d]? = some (.bool want))
    (ty : TypeId) (x : Operand) (ho : o.op = .load ty x) (p : Addr) (hx : a.eval x = .pointer (some p)) (V : Value) (hl : (Instr.loadAt ty (.pointer (some p))).run P w = .ok V w)
    (h : Q .normal (a.put o.dst V) w) : wpList P ops Q [o] a w := by
  have hy : yielded ops a.tmps j = some want := by
    unfold yielded
    rw [hd, Option.bind_some, hv]
  have hw : Region.wanted o (yielded ops a.tmps) = true := by
    unfold Region.wanted
    rw [hg]
    simp [hy]
  simp only [wpList]
  rw [if_pos hw]
  exact .inl (wp_load_val ty x ho p hx V hl h)
def SlD (c : List Ins) (v : Value) (w : World) : Prop := ∃ B2 c2, v = .slice B2 c.length c2 ∧ Rd w 260 B2 c.length (codeD c)
def SlL (n : Nat) (O : List (List UInt8)) (v : Value) (w : World) : Prop := ∃ B2 c2, v = .slice B2 n c2 ∧ Rd w 1 B2 n (strsV O)
theorem codeD_form {w : World} {A : Option Addr} {c : List Ins} (h : Rd w 260 A c.length (codeD c)) : ∃ b o, 0 < c.length → A = some ⟨b, o, none⟩ := by
  by_cases hp : 0 < c.length
  · obtain ⟨x, hx⟩ : ∃ x, c[0]? = some x := ⟨_, List.getElem?_eq_getElem hp⟩
    obtain ⟨b, o, e, _⟩ := codeD_at h hx
    exact ⟨b, o, fun _ => e⟩
  · exact ⟨0, 0, fun h => absurd h hp⟩

set_option maxHeartbeats 16000000 in
set_option maxRecDepth 20000 in
theorem lawTells (E : Nat → Addr) (c d : List Ins) (G H : Int) (A B : Option Addr) (ca cb : Nat) (hc : ∀ i ∈ c, InsN i) (w : World)
    (hR : Rd w 8 A c.length (codeV c)) (hS : Rd w 8 B d.length (codeV d)) (hE : Env E w) (hT : PTab w) :
    Calls Tryd.prog 4 #[.agg #[.slice A c.length ca, .int .i64 G], .agg #[.slice B d.length cb, .int .i64 H]] w fun e w' => e = .returned (.bool true) ∧ Ext w w' := by
  obtain ⟨gp, hgp⟩ : ∃ gp, w.heap.size = gp := ⟨_, rfl⟩
  have hx0 := Ext.new1 w (.cells #[.slice A c.length ca, .int .i64 G] 32)
  have hx1 := Ext.new1 (w.alloc (.cells #[.slice A c.length ca, .int .i64 G] 32)) (.cells #[.slice B d.length cb, .int .i64 H] 32)
  have HP := Lib.hid ((Blk.newA (w := w) hgp 32 [.slice A c.length ca, .int .i64 G]).keep hx1)
  have HQ := Lib.hid (Blk.newA (w := w.alloc (.cells #[.slice A c.length ca, .int .i64 G] 32)) (g := gp + 1) (by simp [hgp]) 32 [.slice B d.length cb, .int .i64 H])
  have HX := Lib.hid (Ext.trans hx0 hx1)
  have HR := Lib.hid (hR.keep HX.out)
  have HS := Lib.hid (hS.keep HX.out)
  have HE := Lib.hid (hE.keep HX.out)
  have HPT := Lib.hid (hT.keep HX.out)
  have HIN := Lib.hid hc
  have HGP := Lib.hid hgp
  clear hR hS hE hT hx0 hx1 hc hgp
  by_cases l1 : (420 : Int) < (c.length : Int)
  · go_enter Tryd.func4, Tryd.ntmps4
    go_upto_region 1 with fail
    rw [HGP.out]
    generalize (w.alloc (.cells _ 32)).alloc (.cells _ 32) = wa at *
    go_wp2_with (go_at_call 10; refine (alive25 E _ HE.out).mono ?_; rintro e w1 ⟨rfl, hx1⟩; have q0 := (HP.out.keep hx1).cell 0; have q1 := (HQ.out.keep hx1).cell 0)
    go_ret
    exact ⟨rfl, Ext.trans HX.out hx1⟩
  by_cases l2 : (420 : Int) < (d.length : Int)
  · go_enter Tryd.func4, Tryd.ntmps4
    go_upto_region 1 with fail
    rw [HGP.out]
    generalize (w.alloc (.cells _ 32)).alloc (.cells _ 32) = wa at *
    go_wp2_with (go_at_call 10; refine (alive25 E _ HE.out).mono ?_; rintro e w1 ⟨rfl, hx1⟩; have q0 := (HP.out.keep hx1).cell 0; have q1 := (HQ.out.keep hx1).cell 0)
    go_ret
    exact ⟨rfl, Ext.trans HX.out hx1⟩
  have HLN := Lib.hid (show c.length ≤ 420 ∧ d.length ≤ 420 by omega)
  go_enter Tryd.func4, Tryd.ntmps4
  go_upto_region 1 with fail
  rw [HGP.out]
  generalize (w.alloc (.cells _ 32)).alloc (.cells _ 32) = wa at *
  go_upto_region 5 with (go_at_call 10; refine (alive25 E _ HE.out).mono ?_; rintro e w1 ⟨rfl, hx1⟩; have q0 := (HP.out.keep hx1).cell 0; have q1 := (HQ.out.keep hx1).cell 0)
  have HX1 := Lib.hid (Ext.trans HX.out hx1)
  have HR1 := Lib.hid (HR.out.keep hx1)
  have HS1 := Lib.hid (HS.out.keep hx1)
  have HP1 := Lib.hid (HP.out.keep hx1)
  have HQ1 := Lib.hid (HQ.out.keep hx1)
  have HE1 := Lib.hid (HE.out.keep hx1)
  have HPT1 := Lib.hid (HPT.out.keep hx1)
  clear hx1 q0 q1 HP HQ HR HS HE HPT
  refine wp_region_dag (E := Ext) (w0 := w1) (Φ := fun i v w => match i with | 0 => (v = .pointer (some ⟨gp, 0, none⟩)) | 1 => (v = .slice A c.length ca) | 2 => (SlD c v w) | 3 => (v = .pointer (some ⟨gp + 1, 0, none⟩)) | 4 => (v = .slice B d.length cb) | 5 => (SlD d v w) | 6 => (SlD c v w) | 7 => (SlD d v w) | _ => True) (show Tryd.prog.follows .mixedOrders = true from Checked.mixed Tryd.checked) 85 rfl (by decide +kernel) ?_ ((Below.refl _ _).drew) ?_ ⟨?_, ?_, ?_, ?_, ?_, ?_, ?_, ?_, trivial⟩ ?_
  · intro i v w w' h hE
    match i, h with
    | 0, h => exact h
    | 1, h => exact h
    | 2, h => exact (by obtain ⟨B2, c2, g1, g2⟩ := h; exact ⟨B2, c2, g1, g2.keep hE⟩)
    | 3, h => exact h
    | 4, h => exact h
    | 5, h => exact (by obtain ⟨B2, c2, g1, g2⟩ := h; exact ⟨B2, c2, g1, g2.keep hE⟩)
    | 6, h => exact (by obtain ⟨B2, c2, g1, g2⟩ := h; exact ⟨B2, c2, g1, g2.keep hE⟩)
    | 7, h => exact (by obtain ⟨B2, c2, g1, g2⟩ := h; exact ⟨B2, c2, g1, g2.keep hE⟩)
    | _ + 8, _ => trivial
  · exact fun w w' h h' => h.trans h'
  · intro ac wx hE hsz hdf h
    have e2 : ac.tmps[2]? = some (.pointer (some ⟨gp, 0, none⟩)) := by obtain ⟨v, h1, h2⟩ := h 2 (by decide +kernel); exact h1.trans h2.symm
    clear h hsz hdf
    go_wp2
    exact ⟨_, rfl, rfl, Ext.refl _⟩
  · intro ac wx hE hsz hdf h
    have e23 : ac.tmps[23]? = some (.pointer (some ⟨gp, 0, none⟩)) := by obtain ⟨v, h1, h2⟩ := h 23 (by decide +kernel); rw [h1]; exact congrArg some h2
    clear h hsz hdf
    have k0 := (HP1.out.keep hE).cell 0
    go_wp2
    exact ⟨_, rfl, rfl, Ext.refl _⟩
  · intro ac wx hE hsz hdf h
    have e24 : ac.tmps[24]? = some (.slice A c.length ca) := by obtain ⟨v, h1, h2⟩ := h 24 (by decide +kernel); rw [h1]; exact congrArg some h2
    clear h hsz hdf
    go_wp2_with ((go_at_call 19; refine (law25Of c A ca c.length rfl (by have := HLN.out; omega) wx (HR1.out.keep hE)).mono ?_; rintro e wz ⟨B2, c2, rfl, hr2, hxz⟩))
    exact ⟨_, rfl, ⟨B2, c2, rfl, hr2⟩, hxz⟩
  · intro ac wx hE hsz hdf h
    have e3 : ac.tmps[3]? = some (.pointer (some ⟨gp + 1, 0, none⟩)) := by obtain ⟨v, h1, h2⟩ := h 3 (by decide +kernel); exact h1.trans h2.symm
    clear h hsz hdf
    go_wp2
    exact ⟨_, rfl, rfl, Ext.refl _⟩
  · intro ac wx hE hsz hdf h
    have e26 : ac.tmps[26]? = some (.pointer (some ⟨gp + 1, 0, none⟩)) := by obtain ⟨v, h1, h2⟩ := h 26 (by decide +kernel); rw [h1]; exact congrArg some h2
    clear h hsz hdf
    have k0 := (HQ1.out.keep hE).cell 0
    go_wp2
    exact ⟨_, rfl, rfl, Ext.refl _⟩
  · intro ac wx hE hsz hdf h
    have e27 : ac.tmps[27]? = some (.slice B d.length cb) := by obtain ⟨v, h1, h2⟩ := h 27 (by decide +kernel); rw [h1]; exact congrArg some h2
    clear h hsz hdf
    go_wp2_with ((go_at_call 19; refine (law25Of d B cb d.length rfl (by have := HLN.out; omega) wx (HS1.out.keep hE)).mono ?_; rintro e wz ⟨B2, c2, rfl, hr2, hxz⟩))
    exact ⟨_, rfl, ⟨B2, c2, rfl, hr2⟩, hxz⟩
  · intro ac wx hE hsz hdf h
    obtain ⟨v25, e25, s25⟩ : ∃ v, ac.tmps[25]? = some v ∧ (SlD c v wx) := h 25 (by decide +kernel)
    clear h hsz hdf
    obtain ⟨B2, c2, rfl, hr2⟩ := s25
    go_wp2
    exact ⟨_, rfl, ⟨B2, c2, rfl, hr2⟩, Ext.refl _⟩
  · intro ac wx hE hsz hdf h
    obtain ⟨v28, e28, s28⟩ : ∃ v, ac.tmps[28]? = some v ∧ (SlD d v wx) := h 28 (by decide +kernel)
    clear h hsz hdf
    obtain ⟨B2, c2, rfl, hr2⟩ := s28
    go_wp2
    exact ⟨_, rfl, ⟨B2, c2, rfl, hr2⟩, Ext.refl _⟩
  · intro ac w9 hE hsz hdf h hrest
    obtain ⟨v0, s0, g0⟩ := h 0 _ rfl
    have e0 := g0 23 rfl
    obtain rfl : v0 = .pointer (some ⟨gp, 0, none⟩) := s0
    obtain ⟨v1, s1, g1⟩ := h 1 _ rfl
    have e1 := g1 24 rfl
    obtain rfl : v1 = .slice A c.length ca := s1
    obtain ⟨v2, s2, g2⟩ := h 2 _ rfl
    have e2 := g2 25 rfl
    replace s2 : SlD c v2 w9 := s2
    obtain ⟨v3, s3, g3⟩ := h 3 _ rfl
    have e3 := g3 26 rfl
    obtain rfl : v3 = .pointer (some ⟨gp + 1, 0, none⟩) := s3
    obtain ⟨v4, s4, g4⟩ := h 4 _ rfl
    have e4 := g4 27 rfl
    obtain rfl : v4 = .slice B d.length cb := s4
    obtain ⟨v5, s5, g5⟩ := h 5 _ rfl
    have e5 := g5 28 rfl
    replace s5 : SlD d v5 w9 := s5
    obtain ⟨v6, s6, g6⟩ := h 6 _ rfl
    have e6 := g6 5 rfl
    replace s6 : SlD c v6 w9 := s6
    obtain ⟨v7, s7, g7⟩ := h 7 _ rfl
    have e7 := g7 6 rfl
    replace s7 : SlD d v7 w9 := s7
    have ha := act_of [(23, .pointer (some ⟨gp, 0, none⟩)), (24, .slice A c.length ca), (25, v2), (26, .pointer (some ⟨gp + 1, 0, none⟩)), (27, .slice B d.length cb), (28, v5), (5, v6), (6, v7)] rfl hsz hdf (by intro p hp; simp only [List.mem_cons, List.not_mem_nil, or_false] at hp; rcases hp with rfl | rfl | rfl | rfl | rfl | rfl | rfl | rfl <;> first | exact e0 | exact e1 | exact e2 | exact e3 | exact e4 | exact e5 | exact e6 | exact e7) hrest
    clear h hrest hsz hdf e0 e1 e2 e3 e4 e5 e6 e7 g0 g1 g2 g3 g4 g5 g6 g7
    subst ha
    simp only [List.foldl_cons, List.foldl_nil, Act.put, List.setIfInBounds_toArray, List.set_cons_succ, List.set_cons_zero]
    obtain ⟨BA, cA, rfl, hra⟩ := s6
    obtain ⟨BB, cB, rfl, hrb⟩ := s7
    have HRA := Lib.hid hra
    have HRB := Lib.hid hrb
    have HX5 := Lib.hid hE
    clear s2 s5 hra hrb hE
    obtain ⟨bN, hbN⟩ : ∃ b, ((c.length : Int) == (d.length : Int)) = b := ⟨_, rfl⟩
    obtain ⟨bG, hbG⟩ : ∃ b, (G == H) = b := ⟨_, rfl⟩
    obtain ⟨s0, hs0⟩ : ∃ b, (bN && bG) = b := ⟨_, rfl⟩
    have HBN := Lib.hid hbN
    have HBG := Lib.hid hbG
    have HS0 := Lib.hid hs0
    have HNM := Lib.hid (show bN = true → c.length = d.length from fun h => by rw [h] at hbN; have := eq_of_beq hbN; omega)
    have HMN := Lib.hid (show bN = false → c.length ≠ d.length from fun h e => by rw [h, e] at hbN; simp at hbN)
    clear hbN hbG hs0
    obtain ⟨bA, oA, hBA⟩ := codeD_form HRA.out
    obtain ⟨bB, oB, hBB⟩ := codeD_form HRB.out
    have HBAF := Lib.hid hBA
    have HBBF := Lib.hid hBB
    have HSEQ := Lib.hid (show (s0 && eqUp c d c.length) = progEqB c d G H from by
      unfold progEqB
      rw [← HS0.out, HBG.out]
      cases hb : bN
      · rw [Bool.false_and, Bool.false_and, eqCode_len c d (HMN.out hb), Bool.and_false]
      · rw [Bool.true_and, eqCode_up c d (HNM.out hb)])
    clear hBA hBB
    have HPQ := Lib.hid (And.intro ((HP1.out.keep HX5.out).cell 1) ((HQ1.out.keep HX5.out).cell 1))
    go_upto_region 6 with fail
    refine wp_region_dag0 (E := fun a b : World => a = b) (w0 := w9) (Φ := fun i v w => match i with | 0 => (v = .slice BA c.length cA) | 1 => (v = .int .i64 (c.length : Nat)) | 2 => (v = .slice BB d.length cB) | 3 => (v = .int .i64 (d.length : Nat)) | 4 => (v = .bool bN) | 5 => (v = .bool bN) | 6 => (v = sk (!bN) (.pointer (some ⟨gp, 1, none⟩))) | 7 => (v = sk (!bN) (.int .i64 G)) | 8 => (v = sk (!bN) (.pointer (some ⟨gp + 1, 1, none⟩))) | 9 => (v = sk (!bN) (.int .i64 H)) | 10 => (v = sk (!bN) (.bool bG)) | 11 => (v = .bool s0) | 12 => (v = .bool s0) | _ => True) 85 rfl (by decide +kernel) ?_ rfl ?_ ⟨?_, ?_, ?_, ?_, ?_, ?_, ?_, ?_, ?_, ?_, ?_, ?_, ?_, trivial⟩ ?_
    · intro i v w w' h hE
      match i, h with
      | 0, h => exact h
      | 1, h => exact h
      | 2, h => exact h
      | 3, h => exact h
      | 4, h => exact h
      | 5, h => exact h
      | 6, h => exact h
      | 7, h => exact h
      | 8, h => exact h
      | 9, h => exact h
      | 10, h => exact h
      | 11, h => exact h
      | 12, h => exact h
      | _ + 13, _ => trivial
    · exact fun w w' h h' => h.trans h'
    · intro ac wx hE hsz hdf h
      obtain rfl : w9 = wx := hE
      have e5 : ac.tmps[5]? = some (.slice BA c.length cA) := el0 (h 5 (by decide +kernel)) rfl
      clear h hsz hdf
      go_wp2
      all_goals first | exact ⟨_, rfl, rfl, (by first | rfl | trivial)⟩ | rfl
    · intro ac wx hE hsz hdf h
      obtain rfl : w9 = wx := hE
      have e29 : ac.tmps[29]? = some (.slice BA c.length cA) := el (h 29 (by decide +kernel))
      clear h hsz hdf
      go_wp2
      all_goals first | exact ⟨_, rfl, rfl, (by first | rfl | trivial)⟩ | rfl
    · intro ac wx hE hsz hdf h
      obtain rfl : w9 = wx := hE
      have e6 : ac.tmps[6]? = some (.slice BB d.length cB) := el0 (h 6 (by decide +kernel)) rfl
      clear h hsz hdf
      go_wp2
      all_goals first | exact ⟨_, rfl, rfl, (by first | rfl | trivial)⟩ | rfl
    · intro ac wx hE hsz hdf h
      obtain rfl : w9 = wx := hE
      have e31 : ac.tmps[31]? = some (.slice BB d.length cB) := el (h 31 (by decide +kernel))
      clear h hsz hdf
      go_wp2
      all_goals first | exact ⟨_, rfl, rfl, (by first | rfl | trivial)⟩ | rfl
    · intro ac wx hE hsz hdf h
      obtain rfl : w9 = wx := hE
      have e30 : ac.tmps[30]? = some (.int .i64 (c.length : Nat)) := el (h 30 (by decide +kernel))
      have e32 : ac.tmps[32]? = some (.int .i64 (d.length : Nat)) := el (h 32 (by decide +kernel))
      clear h hsz hdf
      go_wp2
      all_goals first | exact ⟨_, rfl, (by rw [← HBN.out]; first | done | rfl), (by first | rfl | trivial)⟩ | (rw [← HBN.out]; first | done | rfl)
    · intro ac wx hE hsz hdf h
      obtain rfl : w9 = wx := hE
      have e33 : ac.tmps[33]? = some (.bool bN) := el (h 33 (by decide +kernel))
      clear h hsz hdf
      go_wp2
      all_goals first | exact ⟨_, rfl, rfl, (by first | rfl | trivial)⟩ | rfl
    · intro ac wx hE hsz hdf h
      obtain rfl : w9 = wx := hE
      cases bN
      · have e2 : ac.tmps[2]? = some (.pointer (some ⟨gp, 0, none⟩)) := el0 (h 2 (by decide +kernel)) rfl
        have e34 : ac.tmps[34]? = some (.bool false) := el (h 34 (by decide +kernel))
        clear h hsz hdf
        go_wp2
        all_goals first | exact ⟨_, rfl, rfl, (by first | rfl | trivial)⟩ | rfl
      · have e2 : ac.tmps[2]? = some (.pointer (some ⟨gp, 0, none⟩)) := el0 (h 2 (by decide +kernel)) rfl
        have e34 : ac.tmps[34]? = some (.bool true) := el (h 34 (by decide +kernel))
        clear h hsz hdf
        go_wp2
        all_goals first | exact ⟨_, rfl, rfl, (by first | rfl | trivial)⟩ | rfl
    · intro ac wx hE hsz hdf h
      obtain rfl : w9 = wx := hE
      cases bN
      · have e35 : ac.tmps[35]? = some (undef) := el (h 35 (by decide +kernel))
        have e34 : ac.tmps[34]? = some (.bool false) := el (h 34 (by decide +kernel))
        clear h hsz hdf
        go_wp2
        all_goals first | exact ⟨_, rfl, rfl, (by first | rfl | trivial)⟩ | rfl
      · have e35 : ac.tmps[35]? = some (.pointer (some ⟨gp, 1, none⟩)) := el (h 35 (by decide +kernel))
        have e34 : ac.tmps[34]? = some (.bool true) := el (h 34 (by decide +kernel))
        clear h hsz hdf
        obtain ⟨y0, y1⟩ := HPQ.out
        go_wp2
        all_goals first | exact ⟨_, rfl, rfl, (by first | rfl | trivial)⟩ | rfl
    · intro ac wx hE hsz hdf h
      obtain rfl : w9 = wx := hE
      cases bN
      · have e3 : ac.tmps[3]? = some (.pointer (some ⟨gp + 1, 0, none⟩)) := el0 (h 3 (by decide +kernel)) rfl
        have e34 : ac.tmps[34]? = some (.bool false) := el (h 34 (by decide +kernel))
        clear h hsz hdf
        go_wp2
        all_goals first | exact ⟨_, rfl, rfl, (by first | rfl | trivial)⟩ | rfl
      · have e3 : ac.tmps[3]? = some (.pointer (some ⟨gp + 1, 0, none⟩)) := el0 (h 3 (by decide +kernel)) rfl
        have e34 : ac.tmps[34]? = some (.bool true) := el (h 34 (by decide +kernel))
        clear h hsz hdf
        go_wp2
        all_goals first | exact ⟨_, rfl, rfl, (by first | rfl | trivial)⟩ | rfl
    · intro ac wx hE hsz hdf h
      obtain rfl : w9 = wx := hE
      cases bN
      · have e37 : ac.tmps[37]? = some (undef) := el (h 37 (by decide +kernel))
        have e34 : ac.tmps[34]? = some (.bool false) := el (h 34 (by decide +kernel))
        clear h hsz hdf
        go_wp2
        all_goals first | exact ⟨_, rfl, rfl, (by first | rfl | trivial)⟩ | rfl
      · have e37 : ac.tmps[37]? = some (.pointer (some ⟨gp + 1, 1, none⟩)) := el (h 37 (by decide +kernel))
        have e34 : ac.tmps[34]? = some (.bool true) := el (h 34 (by decide +kernel))
        clear h hsz hdf
        obtain ⟨y0, y1⟩ := HPQ.out
        go_wp2
        all_goals first | exact ⟨_, rfl, rfl, (by first | rfl | trivial)⟩ | rfl
    · intro ac wx hE hsz hdf h
      obtain rfl : w9 = wx := hE
      cases bN
      · have e36 : ac.tmps[36]? = some (undef) := el (h 36 (by decide +kernel))
        have e38 : ac.tmps[38]? = some (undef) := el (h 38 (by decide +kernel))
        have e34 : ac.tmps[34]? = some (.bool false) := el (h 34 (by decide +kernel))
        clear h hsz hdf
        go_wp2
        all_goals first | exact ⟨_, rfl, rfl, (by first | rfl | trivial)⟩ | rfl
      · have e36 : ac.tmps[36]? = some (.int .i64 G) := el (h 36 (by decide +kernel))
        have e38 : ac.tmps[38]? = some (.int .i64 H) := el (h 38 (by decide +kernel))
        have e34 : ac.tmps[34]? = some (.bool true) := el (h 34 (by decide +kernel))
        clear h hsz hdf
        go_wp2
        all_goals first | exact ⟨_, rfl, (by rw [← HBG.out]; first | done | rfl), (by first | rfl | trivial)⟩ | (rw [← HBG.out]; first | done | rfl)
    · intro ac wx hE hsz hdf h
      obtain rfl : w9 = wx := hE
      cases bN
      · have e34 : ac.tmps[34]? = some (.bool false) := el (h 34 (by decide +kernel))
        have e39 : ac.tmps[39]? = some (undef) := el (h 39 (by decide +kernel))
        clear h hsz hdf
        go_wp2
        all_goals first | exact ⟨_, rfl, (by rw [← HS0.out]; first | done | rfl), (by first | rfl | trivial)⟩ | (rw [← HS0.out]; first | done | rfl)
      · have e34 : ac.tmps[34]? = some (.bool true) := el (h 34 (by decide +kernel))
        have e39 : ac.tmps[39]? = some (.bool bG) := el (h 39 (by decide +kernel))
        clear h hsz hdf
        go_wp2
        all_goals first | exact ⟨_, rfl, (by rw [← HS0.out]; first | done | rfl), (by first | rfl | trivial)⟩ | (rw [← HS0.out]; first | done | rfl)
    · intro ac wx hE hsz hdf h
      obtain rfl : w9 = wx := hE
      have e40 : ac.tmps[40]? = some (.bool s0) := el (h 40 (by decide +kernel))
      clear h hsz hdf
      go_wp2
      all_goals first | exact ⟨_, rfl, rfl, (by first | rfl | trivial)⟩ | rfl
    · intro ac w8 hE hsz hdf h hrest
      obtain ⟨v0, s0, g0⟩ := h 0 _ rfl
      have e0 := g0 29 rfl
      obtain rfl : v0 = .slice BA c.length cA := s0
      obtain ⟨v1, s1, g1⟩ := h 1 _ rfl
      have e1 := g1 30 rfl
      obtain rfl : v1 = .int .i64 (c.length : Nat) := s1
      obtain ⟨v2, s2, g2⟩ := h 2 _ rfl
      have e2 := g2 31 rfl
      obtain rfl : v2 = .slice BB d.length cB := s2
      obtain ⟨v3, s3, g3⟩ := h 3 _ rfl
      have e3 := g3 32 rfl
      obtain rfl : v3 = .int .i64 (d.length : Nat) := s3
      obtain ⟨v4, s4, g4⟩ := h 4 _ rfl
      have e4 := g4 33 rfl
      obtain rfl : v4 = .bool bN := s4
      obtain ⟨v5, s5, g5⟩ := h 5 _ rfl
      have e5 := g5 34 rfl
      obtain rfl : v5 = .bool bN := s5
      obtain ⟨v6, s6, g6⟩ := h 6 _ rfl
      have e6 := g6 35 rfl
      obtain rfl : v6 = sk (!bN) (.pointer (some ⟨gp, 1, none⟩)) := s6
      obtain ⟨v7, s7, g7⟩ := h 7 _ rfl
      have e7 := g7 36 rfl
      obtain rfl : v7 = sk (!bN) (.int .i64 G) := s7
      obtain ⟨v8, s8, g8⟩ := h 8 _ rfl
      have e8 := g8 37 rfl
      obtain rfl : v8 = sk (!bN) (.pointer (some ⟨gp + 1, 1, none⟩)) := s8
      obtain ⟨v9, s9, g9⟩ := h 9 _ rfl
      have e9 := g9 38 rfl
      obtain rfl : v9 = sk (!bN) (.int .i64 H) := s9
      obtain ⟨v10, s10, g10⟩ := h 10 _ rfl
      have e10 := g10 39 rfl
      obtain rfl : v10 = sk (!bN) (.bool bG) := s10
      obtain ⟨v11, s11, g11⟩ := h 11 _ rfl
      have e11 := g11 40 rfl
      obtain rfl : v11 = .bool s0 := s11
      obtain ⟨v12, s12, g12⟩ := h 12 _ rfl
      have e12 := g12 7 rfl
      obtain rfl : v12 = .bool s0 := s12
      have ha := act_of [(29, .slice BA c.length cA), (30, .int .i64 (c.length : Nat)), (31, .slice BB d.length cB), (32, .int .i64 (d.length : Nat)), (33, .bool bN), (34, .bool bN), (35, sk (!bN) (.pointer (some ⟨gp, 1, none⟩))), (36, sk (!bN) (.int .i64 G)), (37, sk (!bN) (.pointer (some ⟨gp + 1, 1, none⟩))), (38, sk (!bN) (.int .i64 H)), (39, sk (!bN) (.bool bG)), (40, .bool s0), (7, .bool s0)] rfl hsz hdf (by intro p hp; simp only [List.mem_cons, List.not_mem_nil, or_false] at hp; rcases hp with rfl | rfl | rfl | rfl | rfl | rfl | rfl | rfl | rfl | rfl | rfl | rfl | rfl <;> first | exact e0 | exact e1 | exact e2 | exact e3 | exact e4 | exact e5 | exact e6 | exact e7 | exact e8 | exact e9 | exact e10 | exact e11 | exact e12) hrest
      clear h hrest hsz hdf e0 e1 e2 e3 e4 e5 e6 e7 e8 e9 e10 e11 e12 g0 g1 g2 g3 g4 g5 g6 g7 g8 g9 g10 g11 g12
      subst ha
      simp only [List.foldl_cons, List.foldl_nil, Act.put, List.setIfInBounds_toArray, List.set_cons_succ, List.set_cons_zero]
      obtain rfl : w9 = w8 := hE
      go_upto_region 8 with fail
      have hown0 := own_empty w9 9 1
      have hx8 := Ext.new1 w9 (.cells #[] 9)
      obtain ⟨B1, hB1⟩ : ∃ B1, w9.heap.size = B1 := ⟨_, rfl⟩
      have HB1 := Lib.hid hB1
      rw [hB1] at hown0
      rw [hB1]
      have HO0 := Lib.hid hown0
      have HX8 := Lib.hid hx8
      clear hown0 hx8 hB1
      generalize w9.alloc (.cells #[] 9) = wb at *
      have HX58 := Lib.hid (Ext.trans HX5.out HX8.out)
      go_wp2
      go_loopg [7, 8, 44] c.length (fun gg sv ov iv wr => ∃ j : Nat, j ≤ c.length ∧ gg = c.length - j ∧ sv = .bool (s0 && eqUp c d j) ∧ iv = .int .i64 (j : Nat) ∧ wr.ownsRow B1 9 1 ov j (strsV ((linesO c).take j)) ∧ Ext w9 wr)
      case atStart => exact ⟨0, by omega, rfl, (by unfold eqUp; simp), rfl, HO0.out, HX8.out⟩
      case round =>
        obtain ⟨j, hj, rfl, rfl, rfl, hown, hx⟩ := hrel
        obtain ⟨sj, hsj⟩ : ∃ sj, (s0 && eqUp c d j) = sj := ⟨_, rfl⟩
        rw [hsj]
        obtain ⟨A', c', rfl, hc1, hc2, hrd⟩ := own_rd hown
        have HOW := Lib.hid hown
        have HXR := Lib.hid hx
        have HSJ := Lib.hid hsj
        clear hsj
        by_cases hlt : j < c.length
        rotate_left
        · obtain rfl : j = c.length := by omega
          have hlt' : ¬ (c.length : Int) < (c.length : Int) := by omega
          have HRD := Lib.hid (show Rd wr 1 A' c.length (strsV (linesO c)) from by
            have h2 := hrd
            rw [List.take_of_length_le (by rw [linesO_len]; exact Nat.le_refl _)] at h2
            exact h2)
          have HSE := Lib.hid (show progEqB c d G H = sj from by rw [← HSEQ.out, HSJ.out])
          have HXW := Lib.hid (Ext.trans HX5.out hx)
          clear hown hx hrd hj hlt hc1 hc2
          go_upto_region 14 with fail
          have HPW := Lib.hid (HP1.out.keep HXW.out)
          have HQW := Lib.hid (HQ1.out.keep HXW.out)
          have HRW := Lib.hid (HR1.out.keep HXW.out)
          have HSW := Lib.hid (HS1.out.keep HXW.out)
          have HRAW := Lib.hid (HRA.out.keep HXR.out)
          have HEW := Lib.hid (HE1.out.keep HXW.out)
          have HTW := Lib.hid (HPT1.out.keep HXW.out)
          obtain ⟨rB, hrB⟩ : ∃ r, rightB c G = r := ⟨_, rfl⟩
          have HRBB := Lib.hid hrB
          clear hrB
          refine wp_region_dag (E := Ext) (w0 := wr) (Φ := fun i v w => match i with | 0 => (v = .agg #[.slice A c.length ca, .int .i64 G]) | 1 => (v = .bool rB) | 2 => (v = .slice BA c.length cA) | 3 => (v = .pointer (some ⟨gp, 1, none⟩)) | 4 => (v = .int .i64 G) | 5 => (v = .bool rB) | 6 => (v = .bool true) | 7 => (v = .bool true) | 8 => (v = .agg #[.slice A c.length ca, .int .i64 G]) | 9 => (v = .agg #[.slice B d.length cb, .int .i64 H]) | 10 => (v = .bool sj) | 11 => (v = .bool sj) | 12 => (v = .bool true) | 13 => (v = .bool true) | 14 => (v = .bool true) | 15 => (v = .agg #[.slice A c.length ca, .int .i64 G]) | 16 => (SlL c.length (linesO c) v w) | 17 => (v = .slice A' c.length c') | 18 => (v = .bool true) | 19 => (v = .bool true) | 20 => (v = .bool true) | _ => True) (show Tryd.prog.follows .mixedOrders = true from Checked.mixed Tryd.checked) 85 rfl (by decide +kernel) ?_ ((Below.refl _ _).drew) ?_ ⟨?_, ?_, ?_, ?_, ?_, ?_, ?_, ?_, ?_, ?_, ?_, ?_, ?_, ?_, ?_, ?_, ?_, ?_, ?_, ?_, ?_, trivial⟩ ?_
          · intro i v w w' h hE
            match i, h with
            | 0, h => exact h
            | 1, h => exact h
            | 2, h => exact h
            | 3, h => exact h
            | 4, h => exact h
            | 5, h => exact h
            | 6, h => exact h
            | 7, h => exact h
            | 8, h => exact h
            | 9, h => exact h
            | 10, h => exact h
            | 11, h => exact h
            | 12, h => exact h
            | 13, h => exact h
            | 14, h => exact h
            | 15, h => exact h
            | 16, h => exact (by obtain ⟨B2, c2, g1, g2⟩ := h; exact ⟨B2, c2, g1, g2.keep hE⟩)
            | 17, h => exact h
            | 18, h => exact h
            | 19, h => exact h
            | 20, h => exact h
            | _ + 21, _ => trivial
          · exact fun w w' h h' => h.trans h'
          · intro ac wx hE hsz hdf h
            have e2 : ac.tmps[2]? = some (.pointer (some ⟨gp, 0, none⟩)) := by obtain ⟨v, h1, h2⟩ := h 2 (by decide +kernel); exact h1.trans h2.symm
            clear h hsz hdf
            have hb := HPW.out.keep hE; have k0 := hb.cell 0; have k1 := hb.cell 1
            go_wp2
            exact ⟨_, rfl, rfl, Ext.refl _⟩
          · intro ac wx hE hsz hdf h
            have e65 : ac.tmps[65]? = some (.agg #[.slice A c.length ca, .int .i64 G]) := by obtain ⟨v, h1, h2⟩ := h 65 (by decide +kernel); rw [h1]; exact congrArg some h2
            clear h hsz hdf
            go_wp2_with ((go_at_call 16; refine (nfRightAny c c.length rfl (by have := HLN.out; omega) G A ca wx (HRW.out.keep hE)).mono ?_; rintro e wz ⟨rfl, hxz⟩; rw [HRBB.out]))
            exact ⟨_, rfl, rfl, hxz⟩
          · intro ac wx hE hsz hdf h
            have e5 : ac.tmps[5]? = some (.slice BA c.length cA) := by obtain ⟨v, h1, h2⟩ := h 5 (by decide +kernel); exact h1.trans h2.symm
            clear h hsz hdf
            go_wp2
            exact ⟨_, rfl, rfl, Ext.refl _⟩
          · intro ac wx hE hsz hdf h
            have e2 : ac.tmps[2]? = some (.pointer (some ⟨gp, 0, none⟩)) := by obtain ⟨v, h1, h2⟩ := h 2 (by decide +kernel); exact h1.trans h2.symm
            clear h hsz hdf
            go_wp2
            exact ⟨_, rfl, rfl, Ext.refl _⟩
          · intro ac wx hE hsz hdf h
            have e68 : ac.tmps[68]? = some (.pointer (some ⟨gp, 1, none⟩)) := by obtain ⟨v, h1, h2⟩ := h 68 (by decide +kernel); rw [h1]; exact congrArg some h2
            clear h hsz hdf
            have hb := HPW.out.keep hE; have k0 := hb.cell 0; have k1 := hb.cell 1
            go_wp2
            exact ⟨_, rfl, rfl, Ext.refl _⟩
          · intro ac wx hE hsz hdf h
            have e67 : ac.tmps[67]? = some (.slice BA c.length cA) := by obtain ⟨v, h1, h2⟩ := h 67 (by decide +kernel); rw [h1]; exact congrArg some h2
            have e69 : ac.tmps[69]? = some (.int .i64 G) := by obtain ⟨v, h1, h2⟩ := h 69 (by decide +kernel); rw [h1]; exact congrArg some h2
            clear h hsz hdf
            go_wp2_with ((go_at_call 21; refine (refRight25 c c.length rfl (by have := HLN.out; omega) G BA cA wx (HRAW.out.keep hE)).mono ?_; rintro e wz ⟨rfl, hxz⟩; rw [HRBB.out]))
            exact ⟨_, rfl, rfl, hxz⟩
          · intro ac wx hE hsz hdf h
            have e66 : ac.tmps[66]? = some (.bool rB) := by obtain ⟨v, h1, h2⟩ := h 66 (by decide +kernel); rw [h1]; exact congrArg some h2
            have e70 : ac.tmps[70]? = some (.bool rB) := by obtain ⟨v, h1, h2⟩ := h 70 (by decide +kernel); rw [h1]; exact congrArg some h2
            clear h hsz hdf
            go_wp2
            exact ⟨_, rfl, rfl, Ext.refl _⟩
          · intro ac wx hE hsz hdf h
            have e71 : ac.tmps[71]? = some (.bool true) := by obtain ⟨v, h1, h2⟩ := h 71 (by decide +kernel); rw [h1]; exact congrArg some h2
            clear h hsz hdf
            go_wp2
            exact ⟨_, rfl, rfl, Ext.refl _⟩
          · intro ac wx hE hsz hdf h
            have e2 : ac.tmps[2]? = some (.pointer (some ⟨gp, 0, none⟩)) := by obtain ⟨v, h1, h2⟩ := h 2 (by decide +kernel); exact h1.trans h2.symm
            have e72 : ac.tmps[72]? = some (.bool true) := by obtain ⟨v, h1, h2⟩ := h 72 (by decide +kernel); rw [h1]; exact congrArg some h2
            clear h hsz hdf
            have hb := HPW.out.keep hE; have k0 := hb.cell 0; have k1 := hb.cell 1
            go_wp2
            exact ⟨_, rfl, rfl, Ext.refl _⟩
          · intro ac wx hE hsz hdf h
            have e3 : ac.tmps[3]? = some (.pointer (some ⟨gp + 1, 0, none⟩)) := by obtain ⟨v, h1, h2⟩ := h 3 (by decide +kernel); exact h1.trans h2.symm
            have e72 : ac.tmps[72]? = some (.bool true) := by obtain ⟨v, h1, h2⟩ := h 72 (by decide +kernel); rw [h1]; exact congrArg some h2
            clear h hsz hdf
            have hb := HQW.out.keep hE; have k0 := hb.cell 0; have k1 := hb.cell 1
            go_wp2
            exact ⟨_, rfl, rfl, Ext.refl _⟩
          · intro ac wx hE hsz hdf h
            have e73 : ac.tmps[73]? = some (.agg #[.slice A c.length ca, .int .i64 G]) := by obtain ⟨v, h1, h2⟩ := h 73 (by decide +kernel); rw [h1]; exact congrArg some h2
            have e74 : ac.tmps[74]? = some (.agg #[.slice B d.length cb, .int .i64 H]) := by obtain ⟨v, h1, h2⟩ := h 74 (by decide +kernel); rw [h1]; exact congrArg some h2
            have e72 : ac.tmps[72]? = some (.bool true) := by obtain ⟨v, h1, h2⟩ := h 72 (by decide +kernel); rw [h1]; exact congrArg some h2
            clear h hsz hdf
            go_wp2_with ((go_at_call 18; refine (nfSame c d A B c.length d.length ca cb G H rfl rfl (by have := HLN.out; omega) wx (HRW.out.keep hE) (HSW.out.keep hE)).mono ?_; rintro e wz ⟨rfl, hxz⟩; rw [HSE.out]))
            exact ⟨_, rfl, rfl, hxz⟩
          · intro ac wx hE hsz hdf h
            have e7 : ac.tmps[7]? = some (.bool sj) := by obtain ⟨v, h1, h2⟩ := h 7 (by decide +kernel); exact h1.trans h2.symm
            have e72 : ac.tmps[72]? = some (.bool true) := by obtain ⟨v, h1, h2⟩ := h 72 (by decide +kernel); rw [h1]; exact congrArg some h2
            clear h hsz hdf
            go_wp2
            exact ⟨_, rfl, rfl, Ext.refl _⟩
          · intro ac wx hE hsz hdf h
            have e75 : ac.tmps[75]? = some (.bool sj) := by obtain ⟨v, h1, h2⟩ := h 75 (by decide +kernel); rw [h1]; exact congrArg some h2
            have e76 : ac.tmps[76]? = some (.bool sj) := by obtain ⟨v, h1, h2⟩ := h 76 (by decide +kernel); rw [h1]; exact congrArg some h2
            have e72 : ac.tmps[72]? = some (.bool true) := by obtain ⟨v, h1, h2⟩ := h 72 (by decide +kernel); rw [h1]; exact congrArg some h2
            clear h hsz hdf
            go_wp2
            exact ⟨_, rfl, rfl, Ext.refl _⟩
          · intro ac wx hE hsz hdf h
            have e72 : ac.tmps[72]? = some (.bool true) := by obtain ⟨v, h1, h2⟩ := h 72 (by decide +kernel); rw [h1]; exact congrArg some h2
            have e77 : ac.tmps[77]? = some (.bool true) := by obtain ⟨v, h1, h2⟩ := h 77 (by decide +kernel); rw [h1]; exact congrArg some h2
            clear h hsz hdf
            go_wp2
            exact ⟨_, rfl, rfl, Ext.refl _⟩
          · intro ac wx hE hsz hdf h
            have e78 : ac.tmps[78]? = some (.bool true) := by obtain ⟨v, h1, h2⟩ := h 78 (by decide +kernel); rw [h1]; exact congrArg some h2
            clear h hsz hdf
            go_wp2
            exact ⟨_, rfl, rfl, Ext.refl _⟩
          · intro ac wx hE hsz hdf h
            have e2 : ac.tmps[2]? = some (.pointer (some ⟨gp, 0, none⟩)) := by obtain ⟨v, h1, h2⟩ := h 2 (by decide +kernel); exact h1.trans h2.symm
            have e79 : ac.tmps[79]? = some (.bool true) := by obtain ⟨v, h1, h2⟩ := h 79 (by decide +kernel); rw [h1]; exact congrArg some h2
            clear h hsz hdf
            have hb := HPW.out.keep hE; have k0 := hb.cell 0; have k1 := hb.cell 1
            go_wp2
            exact ⟨_, rfl, rfl, Ext.refl _⟩
          · intro ac wx hE hsz hdf h
            have e80 : ac.tmps[80]? = some (.agg #[.slice A c.length ca, .int .i64 G]) := by obtain ⟨v, h1, h2⟩ := h 80 (by decide +kernel); rw [h1]; exact congrArg some h2
            have e79 : ac.tmps[79]? = some (.bool true) := by obtain ⟨v, h1, h2⟩ := h 79 (by decide +kernel); rw [h1]; exact congrArg some h2
            clear h hsz hdf
            go_wp2_with ((go_at_call 23; refine (nfLinesAt c (linesO c) A ca G c.length rfl wx (linesO_at c HIN.out (by have := HLN.out; omega) wx (HEW.out.t.keep hE) (HTW.out.keep hE)) (HRW.out.keep hE)).mono ?_; rintro e wz ⟨B2, c2, rfl, hr2, hxz⟩))
            exact ⟨_, rfl, ⟨B2, c2, rfl, hr2⟩, hxz⟩
          · intro ac wx hE hsz hdf h
            have e8 : ac.tmps[8]? = some (.slice A' c.length c') := by obtain ⟨v, h1, h2⟩ := h 8 (by decide +kernel); exact h1.trans h2.symm
            have e79 : ac.tmps[79]? = some (.bool true) := by obtain ⟨v, h1, h2⟩ := h 79 (by decide +kernel); rw [h1]; exact congrArg some h2
            clear h hsz hdf
            go_wp2
            exact ⟨_, rfl, rfl, Ext.refl _⟩
          · intro ac wx hE hsz hdf h
            obtain ⟨v81, e81, s81⟩ : ∃ v, ac.tmps[81]? = some v ∧ (SlL c.length (linesO c) v wx) := h 81 (by decide +kernel)
            have e82 : ac.tmps[82]? = some (.slice A' c.length c') := by obtain ⟨v, h1, h2⟩ := h 82 (by decide +kernel); rw [h1]; exact congrArg some h2
            have e79 : ac.tmps[79]? = some (.bool true) := by obtain ⟨v, h1, h2⟩ := h 79 (by decide +kernel); rw [h1]; exact congrArg some h2
            clear h hsz hdf
            obtain ⟨B2, c2, rfl, hr2⟩ := s81
            go_wp2_with ((go_at_call 22; refine (numSame (linesO c) B2 A' c.length c2 c.length c' wx hr2 (HRD.out.keep hE) (by have := HLN.out; omega)).mono ?_; rintro e wz ⟨rfl, hwz⟩; obtain rfl : wx = wz := hwz.symm))
            exact ⟨_, rfl, rfl, Ext.refl _⟩
          · intro ac wx hE hsz hdf h
            have e79 : ac.tmps[79]? = some (.bool true) := by obtain ⟨v, h1, h2⟩ := h 79 (by decide +kernel); rw [h1]; exact congrArg some h2
            have e83 : ac.tmps[83]? = some (.bool true) := by obtain ⟨v, h1, h2⟩ := h 83 (by decide +kernel); rw [h1]; exact congrArg some h2
            clear h hsz hdf
            go_wp2
            exact ⟨_, rfl, rfl, Ext.refl _⟩
          · intro ac wx hE hsz hdf h
            have e84 : ac.tmps[84]? = some (.bool true) := by obtain ⟨v, h1, h2⟩ := h 84 (by decide +kernel); rw [h1]; exact congrArg some h2
            clear h hsz hdf
            go_wp2
            exact ⟨_, rfl, rfl, Ext.refl _⟩
          · intro ac w9 hE hsz hdf h hrest
            obtain ⟨v0, s0, g0⟩ := h 0 _ rfl
            have e0 := g0 65 rfl
            obtain rfl : v0 = .agg #[.slice A c.length ca, .int .i64 G] := s0
            obtain ⟨v1, s1, g1⟩ := h 1 _ rfl
            have e1 := g1 66 rfl
            obtain rfl : v1 = .bool rB := s1
            obtain ⟨v2, s2, g2⟩ := h 2 _ rfl
            have e2 := g2 67 rfl
            obtain rfl : v2 = .slice BA c.length cA := s2
            obtain ⟨v3, s3, g3⟩ := h 3 _ rfl
            have e3 := g3 68 rfl
            obtain rfl : v3 = .pointer (some ⟨gp, 1, none⟩) := s3
            obtain ⟨v4, s4, g4⟩ := h 4 _ rfl
            have e4 := g4 69 rfl
            obtain rfl : v4 = .int .i64 G := s4
            obtain ⟨v5, s5, g5⟩ := h 5 _ rfl
            have e5 := g5 70 rfl
            obtain rfl : v5 = .bool rB := s5
            obtain ⟨v6, s6, g6⟩ := h 6 _ rfl
            have e6 := g6 71 rfl
            obtain rfl : v6 = .bool true := s6
            obtain ⟨v7, s7, g7⟩ := h 7 _ rfl
            have e7 := g7 72 rfl
            obtain rfl : v7 = .bool true := s7
            obtain ⟨v8, s8, g8⟩ := h 8 _ rfl
            have e8 := g8 73 rfl
            obtain rfl : v8 = .agg #[.slice A c.length ca, .int .i64 G] := s8
            obtain ⟨v9, s9, g9⟩ := h 9 _ rfl
            have e9 := g9 74 rfl
            obtain rfl : v9 = .agg #[.slice B d.length cb, .int .i64 H] := s9
            obtain ⟨v10, s10, g10⟩ := h 10 _ rfl
            have e10 := g10 75 rfl
            obtain rfl : v10 = .bool sj := s10
            obtain ⟨v11, s11, g11⟩ := h 11 _ rfl
            have e11 := g11 76 rfl
            obtain rfl : v11 = .bool sj := s11
            obtain ⟨v12, s12, g12⟩ := h 12 _ rfl
            have e12 := g12 77 rfl
            obtain rfl : v12 = .bool true := s12
            obtain ⟨v13, s13, g13⟩ := h 13 _ rfl
            have e13 := g13 78 rfl
            obtain rfl : v13 = .bool true := s13
            obtain ⟨v14, s14, g14⟩ := h 14 _ rfl
            have e14 := g14 79 rfl
            obtain rfl : v14 = .bool true := s14
            obtain ⟨v15, s15, g15⟩ := h 15 _ rfl
            have e15 := g15 80 rfl
            obtain rfl : v15 = .agg #[.slice A c.length ca, .int .i64 G] := s15
            obtain ⟨v16, s16, g16⟩ := h 16 _ rfl
            have e16 := g16 81 rfl
            replace s16 : SlL c.length (linesO c) v16 w9 := s16
            obtain ⟨v17, s17, g17⟩ := h 17 _ rfl
            have e17 := g17 82 rfl
            obtain rfl : v17 = .slice A' c.length c' := s17
            obtain ⟨v18, s18, g18⟩ := h 18 _ rfl
            have e18 := g18 83 rfl
            obtain rfl : v18 = .bool true := s18
            obtain ⟨v19, s19, g19⟩ := h 19 _ rfl
            have e19 := g19 84 rfl
            obtain rfl : v19 = .bool true := s19
            obtain ⟨v20, s20, g20⟩ := h 20 _ rfl
            have e20 := g20 4 rfl
            obtain rfl : v20 = .bool true := s20
            have ha := act_of [(65, .agg #[.slice A c.length ca, .int .i64 G]), (66, .bool rB), (67, .slice BA c.length cA), (68, .pointer (some ⟨gp, 1, none⟩)), (69, .int .i64 G), (70, .bool rB), (71, .bool true), (72, .bool true), (73, .agg #[.slice A c.length ca, .int .i64 G]), (74, .agg #[.slice B d.length cb, .int .i64 H]), (75, .bool sj), (76, .bool sj), (77, .bool true), (78, .bool true), (79, .bool true), (80, .agg #[.slice A c.length ca, .int .i64 G]), (81, v16), (82, .slice A' c.length c'), (83, .bool true), (84, .bool true), (4, .bool true)] rfl hsz hdf (by intro p hp; simp only [List.mem_cons, List.not_mem_nil, or_false] at hp; rcases hp with rfl | rfl | rfl | rfl | rfl | rfl | rfl | rfl | rfl | rfl | rfl | rfl | rfl | rfl | rfl | rfl | rfl | rfl | rfl | rfl | rfl <;> first | exact e0 | exact e1 | exact e2 | exact e3 | exact e4 | exact e5 | exact e6 | exact e7 | exact e8 | exact e9 | exact e10 | exact e11 | exact e12 | exact e13 | exact e14 | exact e15 | exact e16 | exact e17 | exact e18 | exact e19 | exact e20) hrest
            clear h hrest hsz hdf e0 e1 e2 e3 e4 e5 e6 e7 e8 e9 e10 e11 e12 e13 e14 e15 e16 e17 e18 e19 e20 g0 g1 g2 g3 g4 g5 g6 g7 g8 g9 g10 g11 g12 g13 g14 g15 g16 g17 g18 g19 g20
            subst ha
            simp only [List.foldl_cons, List.foldl_nil, Act.put, List.setIfInBounds_toArray, List.set_cons_succ, List.set_cons_zero]
            go_wp2
            go_ret
            exact ⟨rfl, Ext.trans HX1.out (Ext.trans HXW.out hE)⟩
        obtain ⟨xi, hxi⟩ : ∃ xi, c[j]? = some xi := ⟨_, List.getElem?_eq_getElem hlt⟩
        obtain ⟨yi, hyi⟩ : ∃ yi, j < d.length → d[j]? = some yi := by
          by_cases h : j < d.length
          · exact ⟨_, fun _ => List.getElem?_eq_getElem h⟩
          · exact ⟨xi, fun h' => absurd h' h⟩
        have HXI := Lib.hid hxi
        have HYI := Lib.hid hyi
        obtain rfl := HBAF.out (by omega)
        obtain ⟨b8, o8, hA8, hb8, hrg⟩ := codeD_at (c := c) (HRA.out.keep hx) hxi
        cases hA8
        have HRG := Lib.hid hrg
        have HLT := Lib.hid hlt
        have hlt' : (j : Int) < (c.length : Int) := by omega
        have HIX := Lib.hid (HIN.out xi (List.mem_of_getElem? hxi))
        have HSN := Lib.hid (show sj = true → j < d.length from fun h => by
          have h1 := HSJ.out
          rw [h, Bool.and_eq_true] at h1
          have h2 := HS0.out
          rw [h1.1, Bool.and_eq_true] at h2
          have := HNM.out h2.1
          omega)
        obtain ⟨bq, hbq⟩ : ∃ bq, insEqB xi yi = bq := ⟨_, rfl⟩
        have HBQ := Lib.hid hbq
        obtain ⟨s1, hs1⟩ : ∃ s1, (sj && bq) = s1 := ⟨_, rfl⟩
        have HS1J := Lib.hid hs1
        have HSJ1 := Lib.hid (show (s0 && eqUp c d (j + 1)) = s1 from by
          rw [← hs1, ← HSJ.out]
          cases hs : s0
          · rfl
          · have h2 := HS0.out
            rw [hs, Bool.and_eq_true] at h2
            have := HNM.out h2.1
            rw [eqUp_step hxi (HYI.out (by omega)), hbq, Bool.true_and, Bool.true_and])
        obtain ⟨lo, hlo⟩ : ∃ lo, Lib.itoa (j : Int) ++ [32] ++ lineT xi = lo := ⟨_, rfl⟩
        have HLO := Lib.hid hlo
        have HTK := Lib.hid (show strsV ((linesO c).take (j + 1)) = strsV ((linesO c).take j) ++ [strV lo] by rw [List.take_add_one, linesO_get hxi, hlo]; simp [strsV])
        have hw2 : IntKind.i64.wrap ((j : Int) + 1) = (j : Int) + 1 := wrap_id (by omega) (by have := HLN.out; omega)
        clear hown hx hrd hj hxi hyi hrg hb8 hlt hbq hs1 hlo hc1 hc2
        go_upto_region 11 with (first
          | (refine store_di_new rfl (.tmp 10) (.tmp 48) rfl (i := xi) rfl rfl di_zsize ?_)
          | (refine load_di rfl (.tmp 47) rfl (b := bA) (q := oA + j * 260) (i := xi) rfl HRG.out ?_))
        have hx1 := Ext.new1 wr (.cells (diC xi).toArray 47)
        have HIB := Lib.hid (show IB (wr.alloc (.cells (diC xi).toArray 47)) wr.heap.size xi from Blk.newL wr _ _)
        have HOX := Lib.hid (own_ext HOW.out hx1)
        have HXX := Lib.hid (Ext.trans HXR.out hx1)
        have HGX := Lib.hid (show B1 ≤ wr.heap.size from by have := HB1.out; have := HXR.out.size; omega)
        clear hx1 hw2
        generalize wr.alloc (.cells (diC xi).toArray 47) = wc at *
        generalize wr.heap.size = gx at *
        have HLX := Lib.hid (show ∀ wx, Ext wc wx → (Instr.loadAt 47 (.pointer (some ⟨gx, 0, none⟩))).run Tryd.prog wx = .ok (.agg (diC xi).toArray) wx from fun wx hx => run_loadAt_mid (P := Tryd.prog) wx gx 0 47 (diC xi) _ (ib_range (HIB.out.keep hx)) Tryd.underlying47 rfl (by rw [di_len]; exact di_size))
        have HLY := Lib.hid (show sj = true → BB = some ⟨bB, oB, none⟩ ∧ ∀ wx, Ext wc wx → (Instr.loadAt 47 (.pointer (some ⟨bB, oB + j * 260, none⟩))).run Tryd.prog wx = .ok (.agg (diC yi).toArray) wx from fun h => by
          have hjd := HSN.out h
          have hB := HBBF.out (by omega)
          refine ⟨hB, fun wx hx => ?_⟩
          obtain ⟨b9, o9, e9, _, hrg⟩ := codeD_at (c := d) ((HRB.out.keep HXX.out).keep hx) (HYI.out hjd)
          rw [hB] at e9
          cases e9
          exact run_loadAt_mid (P := Tryd.prog) wx bB (oB + j * 260) 47 (diC yi) _ hrg Tryd.underlying47 rfl (by rw [di_len]; exact di_size))
        have HEQ := Lib.hid (fun w => di_eql xi yi w)
        have HEG := Lib.hid (fun w => di_guard .eql (.tmp 51) (.tmp 55) xi yi w)
        rw [HBQ.out] at HEQ
        obtain ⟨VX, hVX⟩ : ∃ VX, Value.agg (diC xi).toArray = VX := ⟨_, rfl⟩
        obtain ⟨VY, hVY⟩ : ∃ VY, Value.agg (diC yi).toArray = VY := ⟨_, rfl⟩
        rw [hVX] at HLX
        rw [hVY] at HLY
        rw [hVX, hVY] at HEQ HEG
        have HVX := Lib.hid hVX
        clear hVX hVY
        refine wp_region_dag (E := Ext) (w0 := wc) (Φ := fun i v w => match i with | 0 => (v = .bool sj) | 1 => (v = .bool sj) | 2 => (v = sk (!sj) (VX)) | 3 => (v = sk (!sj) (.slice BB d.length cB)) | 4 => (v = sk (!sj) (.int .i64 (j : Nat))) | 5 => (v = sk (!sj) (.pointer (some ⟨bB, oB + j * 260, none⟩))) | 6 => (v = sk (!sj) (VY)) | 7 => (v = sk (!sj) (.bool bq)) | 8 => (v = .bool s1) | 9 => (v = .bool s1) | _ => True) (show Tryd.prog.follows .mixedOrders = true from Checked.mixed Tryd.checked) 85 rfl (by decide +kernel) ?_ ((Below.refl _ _).drew) ?_ ⟨?_, ?_, ?_, ?_, ?_, ?_, ?_, ?_, ?_, ?_, trivial⟩ ?_
        · intro i v w w' h hE
          match i, h with
          | 0, h => exact h
          | 1, h => exact h
          | 2, h => exact h
          | 3, h => exact h
          | 4, h => exact h
          | 5, h => exact h
          | 6, h => exact h
          | 7, h => exact h
          | 8, h => exact h
          | 9, h => exact h
          | _ + 10, _ => trivial
        · exact fun w w' h h' => h.trans h'
        · intro ac wx hE hsz hdf h
          have e7 : ac.tmps[7]? = some (.bool sj) := el0 (h 7 (by decide +kernel)) rfl
          clear h hsz hdf
          go_wp2
          all_goals first | exact ⟨_, rfl, rfl, Ext.refl _⟩ | rfl
        · intro ac wx hE hsz hdf h
          have e49 : ac.tmps[49]? = some (.bool sj) := el (h 49 (by decide +kernel))
          clear h hsz hdf
          go_wp2
          all_goals first | exact ⟨_, rfl, rfl, Ext.refl _⟩ | rfl
        · intro ac wx hE hsz hdf h
          cases sj
          · have e10 : ac.tmps[10]? = some (.pointer (some ⟨gx, 0, none⟩)) := el0 (h 10 (by decide +kernel)) rfl
            have e50 : ac.tmps[50]? = some (.bool false) := el (h 50 (by decide +kernel))
            clear h hsz hdf
            go_wp2
            all_goals first | exact ⟨_, rfl, rfl, Ext.refl _⟩ | rfl
          · have e10 : ac.tmps[10]? = some (.pointer (some ⟨gx, 0, none⟩)) := el0 (h 10 (by decide +kernel)) rfl
            have e50 : ac.tmps[50]? = some (.bool true) := el (h 50 (by decide +kernel))
            clear h hsz hdf
            refine wpList_load_run rfl rfl e50 47 (.tmp 10) rfl ⟨gx, 0, none⟩ (by simp [Act.eval, e10]) VX (HLX.out wx hE) ?_
            all_goals first | exact ⟨_, rfl, rfl, Ext.refl _⟩ | rfl
        · intro ac wx hE hsz hdf h
          cases sj
          · have e6 : ac.tmps[6]? = some (.slice BB d.length cB) := el0 (h 6 (by decide +kernel)) rfl
            have e50 : ac.tmps[50]? = some (.bool false) := el (h 50 (by decide +kernel))
            clear h hsz hdf
            go_wp2
            all_goals first | exact ⟨_, rfl, rfl, Ext.refl _⟩ | rfl
          · have e6 : ac.tmps[6]? = some (.slice BB d.length cB) := el0 (h 6 (by decide +kernel)) rfl
            have e50 : ac.tmps[50]? = some (.bool true) := el (h 50 (by decide +kernel))
            clear h hsz hdf
            go_wp2
            all_goals first | exact ⟨_, rfl, rfl, Ext.refl _⟩ | rfl
        · intro ac wx hE hsz hdf h
          cases sj
          · have e9 : ac.tmps[9]? = some (.int .i64 (j : Nat)) := el0 (h 9 (by decide +kernel)) rfl
            have e50 : ac.tmps[50]? = some (.bool false) := el (h 50 (by decide +kernel))
            clear h hsz hdf
            go_wp2
            all_goals first | exact ⟨_, rfl, rfl, Ext.refl _⟩ | rfl
          · have e9 : ac.tmps[9]? = some (.int .i64 (j : Nat)) := el0 (h 9 (by decide +kernel)) rfl
            have e50 : ac.tmps[50]? = some (.bool true) := el (h 50 (by decide +kernel))
            clear h hsz hdf
            go_wp2
            all_goals first | exact ⟨_, rfl, rfl, Ext.refl _⟩ | rfl
        · intro ac wx hE hsz hdf h
          cases sj
          · have e52 : ac.tmps[52]? = some (undef) := el (h 52 (by decide +kernel))
            have e53 : ac.tmps[53]? = some (undef) := el (h 53 (by decide +kernel))
            have e50 : ac.tmps[50]? = some (.bool false) := el (h 50 (by decide +kernel))
            clear h hsz hdf
            go_wp2
            all_goals first | exact ⟨_, rfl, rfl, Ext.refl _⟩ | rfl
          · have e52 : ac.tmps[52]? = some (.slice BB d.length cB) := el (h 52 (by decide +kernel))
            have e53 : ac.tmps[53]? = some (.int .i64 (j : Nat)) := el (h 53 (by decide +kernel))
            have e50 : ac.tmps[50]? = some (.bool true) := el (h 50 (by decide +kernel))
            clear h hsz hdf
            obtain ⟨hB, _⟩ := HLY.out rfl
            subst hB
            have hjd : (j : Int) < (d.length : Int) := by have := HSN.out rfl; omega
            go_wp2
            all_goals first | exact ⟨_, rfl, rfl, Ext.refl _⟩ | rfl
        · intro ac wx hE hsz hdf h
          cases sj
          · have e54 : ac.tmps[54]? = some (undef) := el (h 54 (by decide +kernel))
            have e50 : ac.tmps[50]? = some (.bool false) := el (h 50 (by decide +kernel))
            clear h hsz hdf
            go_wp2
            all_goals first | exact ⟨_, rfl, rfl, Ext.refl _⟩ | rfl
          · have e54 : ac.tmps[54]? = some (.pointer (some ⟨bB, oB + j * 260, none⟩)) := el (h 54 (by decide +kernel))
            have e50 : ac.tmps[50]? = some (.bool true) := el (h 50 (by decide +kernel))
            clear h hsz hdf
            refine wpList_load_run rfl rfl e50 47 (.tmp 54) rfl ⟨bB, oB + j * 260, none⟩ (by simp [Act.eval, e54]) VY ((HLY.out (by first | rfl | trivial)).2 wx hE) ?_
            all_goals first | exact ⟨_, rfl, rfl, Ext.refl _⟩ | rfl
        · intro ac wx hE hsz hdf h
          cases sj
          · have e51 : ac.tmps[51]? = some (undef) := el (h 51 (by decide +kernel))
            have e55 : ac.tmps[55]? = some (undef) := el (h 55 (by decide +kernel))
            have e50 : ac.tmps[50]? = some (.bool false) := el (h 50 (by decide +kernel))
            clear h hsz hdf
            go_wp2
            all_goals first | exact ⟨_, rfl, rfl, Ext.refl _⟩ | rfl
          · have e51 : ac.tmps[51]? = some (VX) := el (h 51 (by decide +kernel))
            have e55 : ac.tmps[55]? = some (VY) := el (h 55 (by decide +kernel))
            have e50 : ac.tmps[50]? = some (.bool true) := el (h 50 (by decide +kernel))
            clear h hsz hdf
            have hq := HEQ.out
            have hg9 := HEG.out
            go_wp2
            all_goals first | exact ⟨_, rfl, rfl, Ext.refl _⟩ | rfl
        · intro ac wx hE hsz hdf h
          cases sj
          · have e50 : ac.tmps[50]? = some (.bool false) := el (h 50 (by decide +kernel))
            have e56 : ac.tmps[56]? = some (undef) := el (h 56 (by decide +kernel))
            clear h hsz hdf
            go_wp2
            all_goals first | exact ⟨_, rfl, (by rw [← HS1J.out]; rfl), Ext.refl _⟩ | (rw [← HS1J.out]; first | done | rfl)
          · have e50 : ac.tmps[50]? = some (.bool true) := el (h 50 (by decide +kernel))
            have e56 : ac.tmps[56]? = some (.bool bq) := el (h 56 (by decide +kernel))
            clear h hsz hdf
            go_wp2
            all_goals first | exact ⟨_, rfl, (by rw [← HS1J.out]; rfl), Ext.refl _⟩ | (rw [← HS1J.out]; first | done | rfl)
        · intro ac wx hE hsz hdf h
          have e57 : ac.tmps[57]? = some (.bool s1) := el (h 57 (by decide +kernel))
          clear h hsz hdf
          go_wp2
          all_goals first | exact ⟨_, rfl, rfl, Ext.refl _⟩ | rfl
        · intro ac w11 hE hsz hdf h hrest
          obtain ⟨v0, s0, g0⟩ := h 0 _ rfl
          have e0 := g0 49 rfl
          obtain rfl : v0 = .bool sj := s0
          obtain ⟨v1, s1, g1⟩ := h 1 _ rfl
          have e1 := g1 50 rfl
          obtain rfl : v1 = .bool sj := s1
          obtain ⟨v2, s2, g2⟩ := h 2 _ rfl
          have e2 := g2 51 rfl
          obtain rfl : v2 = sk (!sj) (VX) := s2
          obtain ⟨v3, s3, g3⟩ := h 3 _ rfl
          have e3 := g3 52 rfl
          obtain rfl : v3 = sk (!sj) (.slice BB d.length cB) := s3
          obtain ⟨v4, s4, g4⟩ := h 4 _ rfl
          have e4 := g4 53 rfl
          obtain rfl : v4 = sk (!sj) (.int .i64 (j : Nat)) := s4
          obtain ⟨v5, s5, g5⟩ := h 5 _ rfl
          have e5 := g5 54 rfl
          obtain rfl : v5 = sk (!sj) (.pointer (some ⟨bB, oB + j * 260, none⟩)) := s5
          obtain ⟨v6, s6, g6⟩ := h 6 _ rfl
          have e6 := g6 55 rfl
          obtain rfl : v6 = sk (!sj) (VY) := s6
          obtain ⟨v7, s7, g7⟩ := h 7 _ rfl
          have e7 := g7 56 rfl
          obtain rfl : v7 = sk (!sj) (.bool bq) := s7
          obtain ⟨v8, s8, g8⟩ := h 8 _ rfl
          have e8 := g8 57 rfl
          obtain rfl : v8 = .bool s1 := s8
          obtain ⟨v9, s9, g9⟩ := h 9 _ rfl
          have e9 := g9 7 rfl
          obtain rfl : v9 = .bool s1 := s9
          have ha := act_of [(49, .bool sj), (50, .bool sj), (51, sk (!sj) (VX)), (52, sk (!sj) (.slice BB d.length cB)), (53, sk (!sj) (.int .i64 (j : Nat))), (54, sk (!sj) (.pointer (some ⟨bB, oB + j * 260, none⟩))), (55, sk (!sj) (VY)), (56, sk (!sj) (.bool bq)), (57, .bool s1), (7, .bool s1)] rfl hsz hdf (by intro p hp; simp only [List.mem_cons, List.not_mem_nil, or_false] at hp; rcases hp with rfl | rfl | rfl | rfl | rfl | rfl | rfl | rfl | rfl | rfl <;> first | exact e0 | exact e1 | exact e2 | exact e3 | exact e4 | exact e5 | exact e6 | exact e7 | exact e8 | exact e9) hrest
          clear h hrest hsz hdf e0 e1 e2 e3 e4 e5 e6 e7 e8 e9 g0 g1 g2 g3 g4 g5 g6 g7 g8 g9
          subst ha
          simp only [List.foldl_cons, List.foldl_nil, Act.put, List.setIfInBounds_toArray, List.set_cons_succ, List.set_cons_zero]
          have hw2 : IntKind.i64.wrap ((j : Int) + 1) = (j : Int) + 1 := wrap_id (by omega) (by have := HLN.out; have := HLT.out; omega)
          have HX11 := Lib.hid hE
          clear hE
          go_upto_region 13 with (first
            | (have := HOY; refine wpList_app2 Tryd.elemS rfl (.tmp 58) (.tmp 62) rfl (v := .slice A' j c') (n := j) (xs := strsV ((linesO c).take j)) rfl (own_ext HOY.out (Ext.new1 _ _)) (by have := HSZ.out; simp; omega) (A := some ⟨wz.heap.size, 0, none⟩) (m := 1) (c := 1) (news := strsV [lo]) rfl (rd_newS wz 1 1 (strsV [lo]) 9 rfl) (one_strsV _) (by have := HLN.out; have := HLT.out; omega) (by have := HLN.out; have := HLT.out; unfold maxLen; omega) ?_; intro v8 w10 hown8 hgr8 _ _)
            | (go_at_call 20; refine (refLine25 (j : Int) ⟨by omega, by have := HLN.out; have := HLT.out; omega⟩ xi HIX.out w11).mono ?_; rintro e wz ⟨rfl, hxz⟩; rw [HLO.out]; have HOY := Lib.hid (own_ext HOX.out (Ext.trans HX11.out hxz)); have HSZ := Lib.hid (show B1 ≤ wz.heap.size from by have h1 := HX11.out.size; have h2 := hxz.size; have h3 := HIB.out.lt; have h4 := HGX.out; omega); have HXZ := Lib.hid (Ext.trans HXX.out (Ext.trans HX11.out hxz)); clear hxz)
            | (refine wpList_load_val rfl 47 (.tmp 10) rfl ⟨gx, 0, none⟩ rfl (Value.agg (diC xi).toArray) (by have := HLX.out w11 HX11.out; rw [← HVX.out] at this; exact this) ?_))
          have hob : ∀ b, (Value.slice A' j c').ownBlock = some b → B1 ≤ b := fun b hb => (HOY.out.lt b hb).1
          have HX13 := Lib.hid (show Ext w9 w10 from (grew_chg hgr8).below (HXZ.out.alloc' _) (HXZ.out.alloc' _).size (fun y hy => by have := hob y (by simpa using hy); have := HB1.out; omega))
          have HO13 := Lib.hid (show w10.ownsRow B1 9 1 v8 (j + 1) (strsV ((linesO c).take (j + 1))) from by rw [HTK.out]; exact hown8)
          clear hown8 hgr8 hob
          go_wp2
          go_roundg (c.length - (j + 1))
          case measure => have := HLT.out; omega
          case rel => exact ⟨j + 1, by have := HLT.out; omega, rfl, by rw [HSJ1.out], by go_num, HO13.out, HX13.out⟩
end Go.Proofs.YtdhmfgaiomfodaaDoor
