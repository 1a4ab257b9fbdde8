/- Where all matches end, which texts are said, the first match: walked. -/
import Derived.Test.YtmfdnjddggaeaaaDoorMn6
import Derived.Test.YtmfdnjddggaeaaaDoorMn2
namespace Go.Proofs.YtmfdnjddggaeaaaDoor
open Go Go.RowKit
attribute [local irreducible] wd

/-- Where matches end, from any number on. -/
def endsA (t : T) (l : List UInt8) (a : Int) : List Nat := if a < 0 ∨ (l.length : Int) < a then [] else endsR t l a.toNat
theorem endsA_nat {t : T} {l : List UInt8} {j : Nat} (h : j ≤ l.length) : endsA t l (j : Int) = endsR t l j := by
  unfold endsA
  rw [if_neg (by omega)]
  rfl
noncomputable def saysA (t : T) (l : List UInt8) : Bool := (t.right 1 0).1 && saysB t l
theorem res_four {f : Func} {i j m n : Tmp} (hf : f.results = #[.tmp i, .tmp j, .tmp m, .tmp n]) (ts : Array Value) (P : Program) (w : World) :
    (results f ts).run P w = .ok (.tuple #[ts.getD i undef, ts.getD j undef, ts.getD m undef, ts.getD n undef]) w := by simp [results, hf]
def MatchR (t : T) (l : List UInt8) (e : Ending) (w w' : World) : Prop := ∃ (f b : Nat) (is : Bool), e = .returned (.tuple #[.int .i64 (f : Nat), .int .i64 (b : Nat), .bool is]) ∧ Best1 t l (l.length + 1) f b is ∧ Ext w w'
def FirstR (ts : List T) (l : List UInt8) (e : Ending) (w w' : World) : Prop := ∃ (k f b : Nat) (is : Bool), e = .returned (.tuple #[.int .i64 (k : Nat), .int .i64 (f : Nat), .int .i64 (b : Nat), .bool is]) ∧ Best ts l ts.length k f b is ∧ Ext w w'
theorem natsI_mem {l : List Nat} {j : Nat} : (j : Int) ∈ natsI l ↔ j ∈ l := by
  unfold natsI
  constructor
  · intro h
    obtain ⟨i, hi, e⟩ := List.mem_map.1 h
    obtain rfl : i = j := by omega
    exact hi
  · intro h
    exact List.mem_map.2 ⟨j, h, rfl⟩
theorem says_endsA (t : T) (l : List UInt8) : decide ((l.length : Int) ∈ natsI (endsA t l 0)) = saysA t l := by
  rw [show decide ((l.length : Int) ∈ natsI (endsA t l 0)) = decide (l.length ∈ endsA t l 0) from decide_eq_decide.2 natsI_mem]
  have : endsA t l ((0 : Nat) : Int) = endsR t l 0 := endsA_nat (Nat.zero_le _)
  rw [show (0 : Int) = ((0 : Nat) : Int) from rfl, this]
  unfold endsR saysA
  cases (t.right 1 0).1
  · simp
  · simp only [if_true, Bool.true_and]; exact says_ends t l
theorem endsA_le (t : T) (l : List UInt8) (a : Int) : (endsA t l a).length ≤ l.length + 1 := by
  unfold endsA
  split
  · simp
  · unfold endsR
    split
    · unfold endsL
      have h1 := placesL_len (stepT l t (oneP a.toNat (l.length + 1)))
      have h2 := (stepT_sem l t (oneP a.toNat (l.length + 1)) (oneP_len _ _)).1
      omega
    · simp

set_option maxHeartbeats 4000000 in
set_option maxRecDepth 20000 in
theorem mnEnds (t : T) (hsz : t.size ≤ 1000000) (l : List UInt8) (hn : l.length ≤ 1000000) (j : Int) (S : Nat → Prop) (w : World) (v : List Value) (h : NodeV S w t v) :
    Calls Tryd.prog 57 #[.agg v.toArray, .string ⟨l.toArray⟩, .int .i64 j] w fun e w' => ∃ r, e = .returned r ∧ IlV w' r (natsI (endsA t l j)) ∧ Ext w w' := by
  obtain ⟨k, m, z, s, A, n, c, rfl⟩ := nodeV_form h
  have hx0 := Lib.hid (Ext.new1 w (.cells (nodeC k m z s A n c).toArray 27))
  have HV := Lib.hid (h.keep hx0.out)
  have HB := Lib.hid (Blk.new w 27 (nodeC k m z s A n c).toArray)
  have HSZ := Lib.hid hsz
  have HN := Lib.hid hn
  clear h hsz hn
  obtain ⟨R, hR⟩ : ∃ R, endsA t l j = R := ⟨_, rfl⟩
  have HR := Lib.hid hR
  rw [hR]
  clear hR
  unfold nodeC at hx0 HV HB ⊢
  obtain ⟨gA, hg0⟩ : ∃ gA, w.heap.size = gA := ⟨_, rfl⟩
  rw [hg0] at HB
  by_cases h0 : j < 0
  · have HRN := Lib.hid (show R = [] by rw [← HR.out]; unfold endsA; rw [if_pos (.inl h0)])
    clear HR
    go_enter Tryd.func57, Tryd.ntmps57
    go_wp2
    go_ret
    exact ⟨_, rfl, by rw [HRN.out]; exact IlV.nil _, hx0.out⟩
  by_cases h1 : (l.length : Int) < j
  · have HRN := Lib.hid (show R = [] by rw [← HR.out]; unfold endsA; rw [if_pos (.inr h1)])
    clear HR
    go_enter Tryd.func57, Tryd.ntmps57
    go_wp2
    go_ret
    exact ⟨_, rfl, by rw [HRN.out]; exact IlV.nil _, hx0.out⟩
  obtain ⟨iq, rfl⟩ : ∃ iq : Nat, j = (iq : Int) := ⟨j.toNat, by omega⟩
  have HI := Lib.hid (show iq ≤ l.length by omega)
  have HRE := Lib.hid (show endsR t l iq = R by rw [← HR.out, endsA_nat HI.out])
  clear HR
  cases hr : (t.right 1 0).1
  · have HRR := Lib.hid hr
    have HRN := Lib.hid (show R = [] by rw [← HRE.out]; unfold endsR; rw [hr]; rfl)
    clear hr HRE
    go_enter Tryd.func57, Tryd.ntmps57
    go_upto_region 1 with fail
    try rw [hg0]
    clear hg0
    generalize w.alloc (.cells #[.int .i64 k, .int .i64 m, .bool z, .int .u64 (wd s 0 : Nat), .int .u64 (wd s 1 : Nat), .int .u64 (wd s 2 : Nat), .int .u64 (wd s 3 : Nat), .slice A n c] 27) = w0 at *
    have HB := Lib.hid (show NodeB w0 gA k m z s A n c from HB.out)
    obtain ⟨q0, q1, q2, q3, q4, q5, q6, q7⟩ := HB.out.cells
    go_wp2_with (go_at_call 13; refine (rxRight t HSZ.out S _ (nodeC k m z s A n c) HV.out).mono ?_; rintro e w1 ⟨rfl, hx1⟩; rw [HRR.out])
    go_ret
    exact ⟨_, rfl, by rw [HRN.out]; exact IlV.nil _, Ext.trans hx0.out hx1⟩
  have HRR := Lib.hid hr
  have HG := Lib.hid (right_good t 1 0 hr)
  have HRN := Lib.hid (show endsL t l iq = R by rw [← HRE.out]; unfold endsR; rw [hr]; rfl)
  clear hr HRE
  go_enter Tryd.func57, Tryd.ntmps57
  go_upto_region 1 with fail
  try rw [hg0]
  clear hg0
  generalize w.alloc (.cells #[.int .i64 k, .int .i64 m, .bool z, .int .u64 (wd s 0 : Nat), .int .u64 (wd s 1 : Nat), .int .u64 (wd s 2 : Nat), .int .u64 (wd s 3 : Nat), .slice A n c] 27) = w0 at *
  have HB := Lib.hid (show NodeB w0 gA k m z s A n c from HB.out)
  obtain ⟨q0, q1, q2, q3, q4, q5, q6, q7⟩ := HB.out.cells
  go_upto_region 3 with (go_at_call 13; refine (rxRight t HSZ.out S _ (nodeC k m z s A n c) HV.out).mono ?_; rintro e w1 ⟨rfl, hx1⟩; rw [HRR.out])
  have HB1 := Lib.hid (HB.out.keep hx1)
  have HV1 := Lib.hid (HV.out.keep hx1)
  have HX1 := Lib.hid (Ext.trans hx0.out hx1)
  clear q0 q1 q2 q3 q4 q5 q6 q7 HB HV hx0 hx1
  have HLEN := Lib.hid (stepT_sem l t (oneP iq (l.length + 1)) (oneP_len _ _)).1
  refine wp_region_dag (E := Ext) (w0 := w1) (Φ := fun i v w => match i with | 0 => (v = .agg #[.int .i64 k, .int .i64 m, .bool z, .int .u64 (wd s 0 : Nat), .int .u64 (wd s 1 : Nat), .int .u64 (wd s 2 : Nat), .int .u64 (wd s 3 : Nat), .slice A n c]) | 1 => (v = .string ⟨l.toArray⟩) | 2 => (v = .int .i64 (iq : Nat)) | 3 => (v = .string ⟨l.toArray⟩) | 4 => (v = .int .i64 (l.length : Nat)) | 5 => (PlV w v (oneP iq (l.length + 1))) | 6 => (PlV w v (stepT l t (oneP iq (l.length + 1)))) | 7 => (IlV w v (natsI R)) | 8 => (IlV w v (natsI R)) | _ => True) (show Tryd.prog.follows .mixedOrders = true from Checked.mixed Tryd.checked) 28 rfl (by decide +kernel) ?_ ((Below.refl _ _).drew) ?_ ⟨?_, ?_, ?_, ?_, ?_, ?_, ?_, ?_, ?_, trivial⟩ ?_
  · intro i v w w' h hE
    match i, h with
    | 0, h => exact h
    | 1, h => exact h
    | 2, h => exact h
    | 3, h => exact h
    | 4, h => exact h
    | 5, h => exact PlV.keep h hE
    | 6, h => exact PlV.keep h hE
    | 7, h => exact IlV.keep h hE
    | 8, h => exact IlV.keep h hE
    | _ + 9, _ => trivial
  · exact fun w w' h h' => h.trans h'
  · -- 0: t20 := load 27 t3
    intro ac wx hE hsz hdf h
    have e3 : ac.tmps[3]? = some (.pointer (some ⟨gA, 0, none⟩)) := by obtain ⟨v, h1, h2⟩ := h 3 (by decide +kernel); exact h1.trans (h2.symm.trans rfl)
    clear h hsz hdf
    obtain ⟨y0, y1, y2, y3, y4, y5, y6, y7⟩ := (HB1.out.keep hE).cells
    go_wp2
    exact ⟨_, rfl, rfl, Ext.refl _⟩
  · -- 1: t21 := move t1
    intro ac wx hE hsz hdf h
    have e1 : ac.tmps[1]? = some (.string ⟨l.toArray⟩) := by obtain ⟨v, h1, h2⟩ := h 1 (by decide +kernel); exact h1.trans (h2.symm.trans rfl)
    clear h hsz hdf
    go_wp2
    exact ⟨_, rfl, rfl, Ext.refl _⟩
  · -- 2: t22 := move t2
    intro ac wx hE hsz hdf h
    have e2 : ac.tmps[2]? = some (.int .i64 (iq : Nat)) := by obtain ⟨v, h1, h2⟩ := h 2 (by decide +kernel); exact h1.trans (h2.symm.trans rfl)
    clear h hsz hdf
    go_wp2
    exact ⟨_, rfl, rfl, Ext.refl _⟩
  · -- 3: t23 := move t1
    intro ac wx hE hsz hdf h
    have e1 : ac.tmps[1]? = some (.string ⟨l.toArray⟩) := by obtain ⟨v, h1, h2⟩ := h 1 (by decide +kernel); exact h1.trans (h2.symm.trans rfl)
    clear h hsz hdf
    go_wp2
    exact ⟨_, rfl, rfl, Ext.refl _⟩
  · -- 4: t24 := call { builtin len, args := #[t23], argTypes := #[9] }
    intro ac wx hE hsz hdf h
    have e23 : ac.tmps[23]? = some (.string ⟨l.toArray⟩) := by obtain ⟨v, h1, h2⟩ := h 23 (by decide +kernel); rw [h1]; exact congrArg some h2
    clear h hsz hdf
    go_wp2
    exact ⟨_, rfl, rfl, Ext.refl _⟩
  · -- 5: t25 := call { value (Operand.func 55), args := #[t22, t24], argTypes := #[3, 3] }
    intro ac wx hE hsz hdf h
    have e22 : ac.tmps[22]? = some (.int .i64 (iq : Nat)) := by obtain ⟨v, h1, h2⟩ := h 22 (by decide +kernel); rw [h1]; exact congrArg some h2
    have e24 : ac.tmps[24]? = some (.int .i64 (l.length : Nat)) := by obtain ⟨v, h1, h2⟩ := h 24 (by decide +kernel); rw [h1]; exact congrArg some h2
    clear h hsz hdf
    go_wp2_with ((go_at_call 77; refine (mnOne iq l.length HI.out HN.out _).mono ?_; rintro e w2 ⟨r2, rfl, hp2, hb9⟩))
    exact ⟨_, rfl, hp2, hb9⟩
  · -- 6: t26 := call { value (Operand.func 54), args := #[t20, t21, t25], argTypes := #[27, 9, 95] }
    intro ac wx hE hsz hdf h
    have e20 : ac.tmps[20]? = some (.agg #[.int .i64 k, .int .i64 m, .bool z, .int .u64 (wd s 0 : Nat), .int .u64 (wd s 1 : Nat), .int .u64 (wd s 2 : Nat), .int .u64 (wd s 3 : Nat), .slice A n c]) := by obtain ⟨v, h1, h2⟩ := h 20 (by decide +kernel); rw [h1]; exact congrArg some h2
    have e21 : ac.tmps[21]? = some (.string ⟨l.toArray⟩) := by obtain ⟨v, h1, h2⟩ := h 21 (by decide +kernel); rw [h1]; exact congrArg some h2
    obtain ⟨v25, e25, s25⟩ : ∃ v, ac.tmps[25]? = some v ∧ (PlV wx v (oneP iq (l.length + 1))) := h 25 (by decide +kernel)
    clear h hsz hdf
    have HP2 := Lib.hid s25; clear s25
    go_wp2_with ((go_at_call 76; refine (mnStep l HN.out _ t (Nat.le_refl _) HG.out S _ (nodeC k m z s A n c) _ (oneP iq (l.length + 1)) (HV1.out.keep hE) HP2.out (oneP_len _ _)).mono ?_; rintro e w2 ⟨r2, rfl, hp2, hb9⟩))
    exact ⟨_, rfl, hp2, hb9⟩
  · -- 7: t27 := call { value (Operand.func 56), args := #[t26], argTypes := #[95] }
    intro ac wx hE hsz hdf h
    obtain ⟨v26, e26, s26⟩ : ∃ v, ac.tmps[26]? = some v ∧ (PlV wx v (stepT l t (oneP iq (l.length + 1)))) := h 26 (by decide +kernel)
    clear h hsz hdf
    have HP2 := Lib.hid s26; clear s26
    go_wp2_with ((go_at_call 78; refine (mnList (stepT l t (oneP iq (l.length + 1))) (by rw [HLEN.out]; have := HN.out; omega) _ _ HP2.out).mono ?_; rintro e w2 ⟨r2, rfl, hp2, hb9⟩; rw [show placesL (stepT l t (oneP iq (l.length + 1))) = R from HRN.out] at hp2))
    exact ⟨_, rfl, hp2, hb9⟩
  · -- 8: t6 := assign t27
    intro ac wx hE hsz hdf h
    obtain ⟨v27, e27, s27⟩ : ∃ v, ac.tmps[27]? = some v ∧ (IlV wx v (natsI R)) := h 27 (by decide +kernel)
    clear h hsz hdf
    have HP2 := Lib.hid s27; clear s27
    go_wp2
    exact ⟨_, rfl, HP2.out, Ext.refl _⟩
  · intro ac w9 hE hsz hdf h hrest
    obtain ⟨v0, s0, g0⟩ := h 0 _ rfl
    have e0 := g0 20 rfl
    obtain rfl : v0 = .agg #[.int .i64 k, .int .i64 m, .bool z, .int .u64 (wd s 0 : Nat), .int .u64 (wd s 1 : Nat), .int .u64 (wd s 2 : Nat), .int .u64 (wd s 3 : Nat), .slice A n c] := s0
    obtain ⟨v1, s1, g1⟩ := h 1 _ rfl
    have e1 := g1 21 rfl
    obtain rfl : v1 = .string ⟨l.toArray⟩ := s1
    obtain ⟨v2, s2, g2⟩ := h 2 _ rfl
    have e2 := g2 22 rfl
    obtain rfl : v2 = .int .i64 (iq : Nat) := s2
    obtain ⟨v3, s3, g3⟩ := h 3 _ rfl
    have e3 := g3 23 rfl
    obtain rfl : v3 = .string ⟨l.toArray⟩ := s3
    obtain ⟨v4, s4, g4⟩ := h 4 _ rfl
    have e4 := g4 24 rfl
    obtain rfl : v4 = .int .i64 (l.length : Nat) := s4
    obtain ⟨v5, s5, g5⟩ := h 5 _ rfl
    have e5 := g5 25 rfl
    replace s5 : PlV w9 v5 (oneP iq (l.length + 1)) := s5
    obtain ⟨v6, s6, g6⟩ := h 6 _ rfl
    have e6 := g6 26 rfl
    replace s6 : PlV w9 v6 (stepT l t (oneP iq (l.length + 1))) := s6
    obtain ⟨v7, s7, g7⟩ := h 7 _ rfl
    have e7 := g7 27 rfl
    replace s7 : IlV w9 v7 (natsI R) := s7
    obtain ⟨v8, s8, g8⟩ := h 8 _ rfl
    have e8 := g8 6 rfl
    replace s8 : IlV w9 v8 (natsI R) := s8
    have ha := act_of [(20, .agg #[.int .i64 k, .int .i64 m, .bool z, .int .u64 (wd s 0 : Nat), .int .u64 (wd s 1 : Nat), .int .u64 (wd s 2 : Nat), .int .u64 (wd s 3 : Nat), .slice A n c]), (21, .string ⟨l.toArray⟩), (22, .int .i64 (iq : Nat)), (23, .string ⟨l.toArray⟩), (24, .int .i64 (l.length : Nat)), (25, v5), (26, v6), (27, v7), (6, v8)] rfl hsz hdf (by intro p hp; simp only [List.mem_cons, List.not_mem_nil, or_false] at hp; rcases hp with rfl | rfl | rfl | rfl | rfl | rfl | rfl | rfl | rfl <;> first | exact e0 | exact e1 | exact e2 | exact e3 | exact e4 | exact e5 | exact e6 | exact e7 | exact e8) hrest
    clear h hrest hsz hdf e0 e1 e2 e3 e4 e5 e6 e7 e8 g0 g1 g2 g3 g4 g5 g6 g7 g8
    subst ha
    simp only [List.foldl_cons, List.foldl_nil, Act.put, List.setIfInBounds_toArray, List.set_cons_succ, List.set_cons_zero]
    have HRES := Lib.hid s8
    have HXX := Lib.hid (Ext.trans HX1.out hE)
    clear s5 s6 s7 s8
    go_wp2
    go_ret
    exact ⟨_, rfl, HRES.out, HXX.out⟩

set_option maxHeartbeats 2000000 in
theorem mnSays (t : T) (hsz : t.size ≤ 1000000) (l : List UInt8) (hn : l.length ≤ 1000000) (S : Nat → Prop) (w : World) (v : List Value) (h : NodeV S w t v) :
    Calls Tryd.prog 58 #[.agg v.toArray, .string ⟨l.toArray⟩] w fun e w' => e = .returned (.bool (saysA t l)) ∧ Ext w w' := by
  obtain ⟨k, m, z, s, A, n, c, rfl⟩ := nodeV_form h
  have hx0 := Lib.hid (Ext.new1 w (.cells (nodeC k m z s A n c).toArray 27))
  have HV := Lib.hid (h.keep hx0.out)
  have HE := Lib.hid (endsA_le t l 0)
  have HS := Lib.hid (says_endsA t l)
  have HSZ := Lib.hid hsz
  have HN := Lib.hid hn
  clear h hsz hn
  unfold nodeC at hx0 HV ⊢
  go_enter Tryd.func58, Tryd.ntmps58
  go_wp2_with (first
    | (have := hx1; go_at_call 79; refine (intsContains (natsI (endsA t l 0)) (l.length : Nat) A1 _ c1 _ hr1 (by have := HE.out; have := HN.out; unfold natsI; rw [List.length_map]; omega)).mono ?_; rintro e w2 ⟨rfl, hx2⟩; rw [HS.out])
    | (go_at_call 57; refine (mnEnds t HSZ.out l HN.out 0 S _ (nodeC k m z s A n c) HV.out).mono ?_; rintro e w1 ⟨r1, rfl, hr, hx1⟩; obtain ⟨A1, c1, rfl, -, -, hr1⟩ := hr))
  go_ret
  exact ⟨rfl, Ext.trans hx0.out (Ext.trans hx1 hx2)⟩

set_option maxHeartbeats 4000000 in
set_option maxRecDepth 20000 in
theorem mnMatch (t : T) (hsz : t.size ≤ 1000000) (l : List UInt8) (hn : l.length ≤ 1000000) (S : Nat → Prop) (w : World) (v : List Value) (h : NodeV S w t v) :
    Calls Tryd.prog 59 #[.agg v.toArray, .string ⟨l.toArray⟩] w fun e w' => MatchR t l e w w' := by
  obtain ⟨k, m, z, s, A, n, c, rfl⟩ := nodeV_form h
  have hx0 := Lib.hid (Ext.new1 w (.cells (nodeC k m z s A n c).toArray 27))
  have HV := Lib.hid (h.keep hx0.out)
  have HB := Lib.hid (Blk.new w 27 (nodeC k m z s A n c).toArray)
  have HSZ := Lib.hid hsz
  have HN := Lib.hid hn
  have hw0 : IntKind.i64.wrap ((l.length : Int) + 1) = (l.length : Int) + 1 := wrap_id (by omega) (by omega)
  clear h hsz hn
  unfold nodeC at hx0 HV HB ⊢
  obtain ⟨gA, hg0⟩ : ∃ gA, w.heap.size = gA := ⟨_, rfl⟩
  rw [hg0] at HB
  go_enter Tryd.func59, Tryd.ntmps59
  go_upto_region 1 with fail
  try rw [hg0]
  clear hg0
  generalize w.alloc (.cells #[.int .i64 k, .int .i64 m, .bool z, .int .u64 (wd s 0 : Nat), .int .u64 (wd s 1 : Nat), .int .u64 (wd s 2 : Nat), .int .u64 (wd s 3 : Nat), .slice A n c] 27) = w0 at *
  have HB := Lib.hid (show NodeB w0 gA k m z s A n c from HB.out)
  go_wp2
  go_loopg [4, 5, 6, 12] (l.length + 1) (fun gg fv bv sv iv wr => ∃ (i f b : Nat) (is : Bool), i ≤ l.length + 1 ∧ gg = l.length + 1 - i ∧ fv = .int .i64 (f : Nat) ∧ bv = .int .i64 (b : Nat) ∧ sv = .bool is ∧ iv = .int .i64 (i : Nat) ∧ Best1 t l i f b is ∧ Ext w0 wr)
  case atStart => exact ⟨0, 0, 0, false, by omega, rfl, rfl, rfl, rfl, rfl, best1_zero t l, Ext.refl _⟩
  case round =>
    obtain ⟨i, f, b, is, hi, rfl, rfl, rfl, rfl, rfl, hbest, hx⟩ := hrel
    have HBE := Lib.hid hbest
    clear hbest
    by_cases hlt : i < l.length + 1
    · have hlt' : (i : Int) < (l.length : Int) + 1 := by omega
      have hw2 : IntKind.i64.wrap ((i : Int) + 1) = (i : Int) + 1 := wrap_id (by omega) (by have := HN.out; omega)
      obtain ⟨q0, q1, q2, q3, q4, q5, q6, q7⟩ := (HB.out.keep hx).cells
      have HIL := Lib.hid (show i ≤ l.length by omega)
      go_upto_region 5 with (go_at_call 57; refine (mnEnds t HSZ.out l HN.out (i : Nat) S _ (nodeC k m z s A n c) (HV.out.keep hx)).mono ?_; rintro e w1 ⟨r1, rfl, hr, hx1⟩; rw [endsA_nat HIL.out] at hr; obtain ⟨A1, c1, rfl, hc1, -, hr1⟩ := hr)
      clear q0 q1 q2 q3 q4 q5 q6 q7
      have HX := Lib.hid (Ext.trans hx hx1)
      clear hx hx1
      obtain ⟨L, hL⟩ : ∃ L, endsR t l i = L := ⟨_, rfl⟩
      have HL := Lib.hid hL
      rw [hL] at hr1 ⊢
      clear hL hc1
      cases L with
      | nil =>
        clear hr1
        have HB2 := Lib.hid (best1_skip HIL.out HBE.out HL.out)
        go_wp2
        go_roundg (l.length + 1 - (i + 1))
        case measure => omega
        case rel => exact ⟨i + 1, f, b, is, by omega, rfl, rfl, rfl, rfl, by go_num, HB2.out, HX.out⟩
      | cons x r =>
        obtain ⟨b2, o2, rfl, _, hc2⟩ := hr1.2 (by simp [natsI, intsV])
        have p2 : w1.cell? ⟨b2, o2, none⟩ = some (.int .i64 (x : Nat)) := hc2 0 _ (by simp [natsI, intsV])
        clear hc2 hr1
        obtain ⟨q, hq⟩ : ∃ q, (natsI (x :: r)).length = q := ⟨_, rfl⟩
        have hq0 : 0 < q := by rw [← hq]; simp [natsI]
        have hq1 : (0 : Int) < (q : Int) := by omega
        rw [hq]
        clear hq
        cases is
        · have HB2 := Lib.hid (best1_take HIL.out HBE.out HL.out (fun e => by cases e))
          go_wp2
          go_region
          go_wp2
          go_roundg (l.length + 1 - (i + 1))
          case measure => omega
          case rel => exact ⟨i + 1, i, x, true, by omega, rfl, rfl, rfl, rfl, by go_num, HB2.out, HX.out.trans (Ext.drawn _ _)⟩
        · by_cases hxb : x < b
          · have hxb' : (x : Int) < (b : Int) := by omega
            have HB2 := Lib.hid (best1_take HIL.out HBE.out HL.out (fun _ => hxb))
            go_wp2
            go_region
            go_wp2
            go_roundg (l.length + 1 - (i + 1))
            case measure => omega
            case rel => exact ⟨i + 1, i, x, true, by omega, rfl, rfl, rfl, rfl, by go_num, HB2.out, HX.out.trans (Ext.drawn _ _)⟩
          · have hxb' : ¬ (x : Int) < (b : Int) := by omega
            have HB2 := Lib.hid (best1_keep HIL.out HBE.out HL.out hxb)
            go_wp2
            go_roundg (l.length + 1 - (i + 1))
            case measure => omega
            case rel => exact ⟨i + 1, f, b, true, by omega, rfl, rfl, rfl, rfl, by go_num, HB2.out, HX.out⟩
    · obtain rfl : i = l.length + 1 := by omega
      have hlt' : ¬ ((l.length + 1 : Nat) : Int) < (l.length : Int) + 1 := by omega
      go_wp2
      go_ret3
      exact ⟨f, b, is, rfl, HBE.out, Ext.trans hx0.out hx⟩

set_option maxHeartbeats 4000000 in
set_option maxRecDepth 20000 in
theorem mnFirst (ts : List T) (hsz : ∀ t ∈ ts, t.size ≤ 1000000) (l : List UInt8) (hn : l.length ≤ 1000000) (A : Option Addr) (c : Nat) (cs : List Value) (S : Nat → Prop) (w : World) (hl : ts.length ≤ maxLen) (hR : Rd w 8 A ts.length cs) (hK : KidsV S w ts cs) :
    Calls Tryd.prog 35 #[.slice A ts.length c, .string ⟨l.toArray⟩] w fun e w' => FirstR ts l e w w' := by
  have HR1 := Lib.hid hR
  have HK1 := Lib.hid hK
  have HSZ := Lib.hid hsz
  have HN := Lib.hid hn
  have HLN := Lib.hid (show ts.length ≤ 9223372036854775807 by unfold maxLen at hl; omega)
  clear hR hK hsz hn hl
  go_enter Tryd.func35, Tryd.ntmps35
  go_wp2
  go_loopg [4, 5, 6, 7, 15] ts.length (fun gg kv fv bv sv iv wr => ∃ (i k f b : Nat) (is : Bool), i ≤ ts.length ∧ gg = ts.length - i ∧ kv = .int .i64 (k : Nat) ∧ fv = .int .i64 (f : Nat) ∧ bv = .int .i64 (b : Nat) ∧ sv = .bool is ∧ iv = .int .i64 (i : Nat) ∧ Best ts l i k f b is ∧ Ext w wr)
  case atStart => exact ⟨0, 0, 0, 0, false, by omega, rfl, rfl, rfl, rfl, rfl, rfl, best_zero ts l, Ext.refl _⟩
  case round =>
    obtain ⟨i, k, f, b, is, hi, rfl, rfl, rfl, rfl, rfl, rfl, hbest, hx⟩ := hrel
    have HBE := Lib.hid hbest
    clear hbest
    by_cases hlt : i < ts.length
    · obtain ⟨b9, o, k', m', z', p', B, n', c', rfl, hv, hk⟩ := kid_at HR1.out HK1.out hlt
      obtain ⟨x0, x1, x2, x3, x4, x5, x6, x7⟩ := hk.out wr hx
      have hlt' : (i : Int) < (ts.length : Int) := by omega
      have hw2 : IntKind.i64.wrap ((i : Int) + 1) = (i : Int) + 1 := wrap_id (by omega) (by have := HLN.out; omega)
      have hxn := Ext.new1 wr (.cells (nodeC k' m' z' p' B n' c').toArray 27)
      have HV := Lib.hid ((hv.keep hx).keep hxn)
      have HX := Lib.hid (Ext.trans hx hxn)
      have HT := Lib.hid (HSZ.out _ (List.getElem_mem hlt))
      have HGE := Lib.hid (List.getElem?_eq_getElem hlt)
      clear hv hk hx hxn
      go_upto_region 5 with (go_at_call 59; refine (mnMatch (ts[i]'hlt) HT.out l HN.out S _ (nodeC k' m' z' p' B n' c') HV.out).mono ?_; rintro e w2 ⟨f2, b2, is2, rfl, hb2, hx2⟩)
      have HB2 := Lib.hid hb2
      have HX2 := Lib.hid (Ext.trans HX.out hx2)
      clear x0 x1 x2 x3 x4 x5 x6 x7 hb2 hx2
      cases is2
      · have HB3 := Lib.hid (best_skip HGE.out HBE.out HB2.out)
        go_wp2
        go_roundg (ts.length - (i + 1))
        case measure => omega
        case rel => exact ⟨i + 1, k, f, b, is, by omega, rfl, rfl, rfl, rfl, rfl, by go_num, HB3.out, HX2.out⟩
      · cases is
        · have HB3 := Lib.hid (best_take HGE.out HBE.out HB2.out (fun e => by cases e))
          go_wp2
          go_roundg (ts.length - (i + 1))
          case measure => omega
          case rel => exact ⟨i + 1, i, f2, b2, true, by omega, rfl, rfl, rfl, rfl, rfl, by go_num, HB3.out, HX2.out⟩
        · by_cases hxb : b2 < b
          · have hxb' : (b2 : Int) < (b : Int) := by omega
            have HB3 := Lib.hid (best_take HGE.out HBE.out HB2.out (fun _ => hxb))
            go_wp2
            go_roundg (ts.length - (i + 1))
            case measure => omega
            case rel => exact ⟨i + 1, i, f2, b2, true, by omega, rfl, rfl, rfl, rfl, rfl, by go_num, HB3.out, HX2.out⟩
          · have hxb' : ¬ (b2 : Int) < (b : Int) := by omega
            have HB3 := Lib.hid (best_keep HGE.out HBE.out HB2.out hxb)
            go_wp2
            go_roundg (ts.length - (i + 1))
            case measure => omega
            case rel => exact ⟨i + 1, k, f, b, true, by omega, rfl, rfl, rfl, rfl, rfl, by go_num, HB3.out, HX2.out⟩
    · obtain rfl : i = ts.length := by omega
      have hlt' : ¬ (ts.length : Int) < (ts.length : Int) := by omega
      go_wp2
      refine bodyPost_ret (res_four rfl _ _ _) rfl ?_
      exact ⟨k, f, b, is, rfl, HBE.out, hx⟩
end Go.Proofs.YtmfdnjddggaeaaaDoor
