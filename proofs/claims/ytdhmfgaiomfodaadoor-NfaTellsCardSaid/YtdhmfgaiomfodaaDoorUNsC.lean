/- Put together: Nf4p, Nf4, Nf5, Nf6. -/
import Derived.Test.YtdhmfgaiomfodaaDoorUNsA
import Derived.Test.YtdhmfgaiomfodaaDoorUNsB
import Derived.Test.YtdhmfgaiomfodaaDoorUTgO
namespace Go.Proofs.YtdhmfgaiomfodaaDoor
open Go Go.RowKit

/-- All branches but the last: each ends with a jump to x. -/
def altX (x : Nat) : List T → Nat → List Ins
  | [], _ => []
  | t :: ts, a => iSplit (a + 1) (a + (codeT t (a + 1)).length + 2) false :: (codeT t (a + 1) ++ (iJump x :: altX x ts (a + (codeT t (a + 1)).length + 2)))
/-- Where their jumps stand. -/
def altE : List T → Nat → List Nat
  | [], _ => []
  | t :: ts, a => (a + (codeT t (a + 1)).length + 1) :: altE ts (a + (codeT t (a + 1)).length + 2)
theorem altX_len (x y : Nat) : ∀ (ts : List T) (a : Nat), (altX x ts a).length = (altX y ts a).length
  | [], _ => rfl
  | t :: ts, a => by simp only [altX, List.length_cons, List.length_append, altX_len x y ts]
theorem altX_snoc (x : Nat) : ∀ (ts : List T) (t : T) (a b : Nat), b = a + (altX x ts a).length → altX x (ts ++ [t]) a = altX x ts a ++ (iSplit (b + 1) (b + (codeT t (b + 1)).length + 2) false :: (codeT t (b + 1) ++ [iJump x]))
  | [], t, a, b, h => by simp [altX] at h ⊢; subst h; simp
  | u :: ts, t, a, b, h => by
    rw [List.cons_append, altX, altX_snoc x ts t _ b (by rw [h]; simp only [altX, List.length_cons, List.length_append]; omega), altX]
    simp
theorem altE_snoc (x : Nat) : ∀ (ts : List T) (t : T) (a b : Nat), b = a + (altX x ts a).length → altE (ts ++ [t]) a = altE ts a ++ [b + (codeT t (b + 1)).length + 1]
  | [], t, a, b, h => by simp [altX] at h; subst h; simp [altE]
  | u :: ts, t, a, b, h => by
    rw [List.cons_append, altE, altE_snoc x ts t _ b (by rw [h]; simp only [altX, List.length_cons, List.length_append]; omega), altE]
    simp
theorem altX_app (x : Nat) : ∀ (ts us : List T) (a b : Nat), b = a + (altX x ts a).length → altX x (ts ++ us) a = altX x ts a ++ altX x us b
  | [], us, a, b, h => by simp [altX] at h ⊢; subst h; rfl
  | u :: ts, us, a, b, h => by
    rw [List.cons_append, altX, altX_app x ts us _ b (by rw [h]; simp only [altX, List.length_cons, List.length_append]; omega), altX]
    simp
/-- The whole: all but the last, the last. -/
theorem codeAlt_init : ∀ (ts : List T) (t : T) (a b : Nat), b = a + (altX 0 ts a).length → codeAlt (ts ++ [t]) a = altX (b + (codeT t b).length) ts a ++ codeT t b
  | [], t, a, b, h => by simp [altX] at h; subst h; simp [codeAlt, altX]
  | u :: ts, t, a, b, h => by
    have hb : b = (a + (codeT u (a + 1)).length + 2) + (altX 0 ts (a + (codeT u (a + 1)).length + 2)).length := by rw [h]; simp only [altX, List.length_cons, List.length_append]; omega
    have ih := codeAlt_init ts t _ b hb
    have hl := altX_len (b + (codeT t b).length) 0 ts (a + (codeT u (a + 1)).length + 2)
    rw [List.cons_append, codeAlt, if_neg (by simp), ih, altX]
    have e : a + (codeT u (a + 1)).length + 2 + (altX (b + (codeT t b).length) ts (a + (codeT u (a + 1)).length + 2) ++ codeT t b).length = b + (codeT t b).length := by
      rw [List.length_append, hl]; omega
    rw [e]
    simp
/-- The place of the j-th jump. -/
theorem altE_at (x : Nat) : ∀ (ts : List T) (a j : Nat) (t : T), ts[j]? = some t → ∃ b, b = a + (altX x (ts.take j) a).length ∧ (altE ts a)[j]? = some (b + (codeT t (b + 1)).length + 1) ∧ ∀ y, altX y (ts.drop j) b = iSplit (b + 1) (b + (codeT t (b + 1)).length + 2) false :: (codeT t (b + 1) ++ (iJump y :: altX y (ts.drop (j + 1)) (b + (codeT t (b + 1)).length + 2)))
  | [], a, j, t, h => by simp at h
  | u :: ts, a, 0, t, h => by
    simp at h
    subst h
    exact ⟨a, by simp [altX], by simp [altE], fun y => by simp [altX]⟩
  | u :: ts, a, j + 1, t, h => by
    obtain ⟨b, h1, h2, h3⟩ := altE_at x ts (a + (codeT u (a + 1)).length + 2) j t (by simpa using h)
    refine ⟨b, ?_, by simpa [altE] using h2, by simpa using h3⟩
    rw [h1]
    simp only [List.take_succ_cons, altX, List.length_cons, List.length_append]
    omega
end Go.Proofs.YtdhmfgaiomfodaaDoor
namespace Go.Proofs.YtdhmfgaiomfodaaDoor
open Go Go.RowKit
attribute [local irreducible] wd

theorem CN.grew {gc : Nat} {w wr w8 : World} {v v' u : Value} (h : CN gc w v wr v') (hg : Grew w.heap.size wr w8 u) : CN gc w v w8 v' := by
  obtain ⟨a1, a2, a3, a4, a5⟩ := hg.by_
  refine ⟨⟨a1.trans h.ch.os, a2.trans h.ch.tape, a3.trans h.ch.output, Nat.le_trans h.ch.size a4, fun k hk hx => ?_⟩, h.at_⟩
  refine (a5 k (Nat.lt_of_lt_of_le hk h.ch.size) fun e => ?_).trans (h.ch.block k hk hx)
  have := hg.from_ k e.symm
  omega
/-- A row of numbers lies apart from the compiler's. -/
theorem CM.apart {w : World} {gc base n : Nat} {v u : Value} {code : List Ins} {xs : List Value} (h : CM w gc v code) (hu : w.ownsRow base 3 1 u n xs) (hb : gc < base) : ∀ k, u.ownBlock = some k → k ∉ gc :: v.ownBlock.toList := by
  intro k hk hm
  rcases List.mem_cons.1 hm with rfl | hm
  · have := (hu.lt k hk).1; omega
  · have := own_ne hu h.own (by decide) k hk
    exact this (by simpa using hm)
theorem CM.grew {w w8 : World} {gc base n : Nat} {v u : Value} {code : List Ins} {xs : List Value} (h : CM w gc v code) (hu : w.ownsRow base 3 1 u n xs) (hb : gc < base) (hg : Grew base w w8 u) : CM w8 gc v code := by
  have hap := h.apart hu hb
  refine ⟨Blk.grew h.blk hg (fun e => hap gc e.symm (by simp)), own_chg (X := u.ownBlock.toList) h.own ⟨hg.by_.os, hg.by_.tape, hg.by_.output, hg.by_.size, fun k hk hkn => hg.by_.block k hk (fun e => hkn (by simp [← e]))⟩ (fun k hk hm => hap k (by simpa using hm) (by simp [hk]))⟩
def endsV (es : List Nat) : List Value := es.map fun n => .int .i64 (n : Nat)

theorem altX_lenA (x : Nat) : ∀ (ts : List T) (l : T) (a : Nat), (altX x ts a).length + lenT l = lenA (ts ++ [l])
  | [], l, a => by simp [altX, lenA]
  | u :: ts, l, a => by
    have ih := altX_lenA x ts l (a + (codeT u (a + 1)).length + 2)
    rw [List.cons_append, lenA, if_neg (by simp), ← ih]
    simp only [altX, List.length_cons, List.length_append, codeT_len]
    omega
theorem altX_room {is : List T} {l : T} {a i : Nat} (h : i < is.length) : (altX 0 (is.take i) a).length + lenT is[i] + 2 ≤ lenA (is ++ [l]) := by
  have h1 := altX_lenA 0 is l a
  have h2 := congrArg List.length (altX_app 0 (is.take (i + 1)) (is.drop (i + 1)) a _ rfl)
  rw [List.take_append_drop, List.length_append] at h2
  have h3 := congrArg List.length (altX_snoc 0 (is.take i) is[i] a _ rfl)
  rw [← List.take_succ_eq_append_getElem h] at h3
  simp only [List.length_append, List.length_cons, List.length_nil, codeT_len] at h3
  omega

theorem codeV_setx (p q : List Ins) (i : Ins) (x : Int) : (codeV (p ++ i :: q)).set (p.length * 8 + 1) (.int .i64 x) = codeV (p ++ { i with x := x } :: q) := by
  have e : ∀ i : Ins, codeV (p ++ i :: q) = codeV p ++ (insV i ++ codeV q) := fun i => by rw [codeV_app]; show _ = _; congr 1
  rw [e, e, List.set_append_right _ _ (by rw [codeV_len]; omega), codeV_len, show p.length * 8 + 1 - p.length * 8 = 1 by omega]
  rfl
theorem CM.jumped {w : World} {gc g c n : Nat} {p q : List Ins} {i : Ins} (h : CM w gc (.slice (some ⟨g, 0, none⟩) n c) (p ++ i :: q)) (hn : n = (p ++ i :: q).length) (hg : gc + 1 ≤ g) (x : Int) :
    CM (w.setCell ⟨g, p.length * 8 + 1, none⟩ (.int .i64 x)) gc (.slice (some ⟨g, 0, none⟩) n c) (p ++ { i with x := x } :: q) ∧ CN gc w (.slice (some ⟨g, 0, none⟩) n c) (w.setCell ⟨g, p.length * 8 + 1, none⟩ (.int .i64 x)) (.slice (some ⟨g, 0, none⟩) n c) := by
  subst hn
  have ho := own_set8 (i := p.length * 8 + 1) h.own (.int .i64 x)
  rw [codeV_setx] at ho
  have hb : Blk (w.setCell ⟨g, p.length * 8 + 1, none⟩ (.int .i64 x)) gc 83 [.slice (some ⟨g, 0, none⟩) (p ++ i :: q).length c] := Blk.far h.blk (p := ⟨g, p.length * 8 + 1, none⟩) (by show gc ≠ g; omega) _
  have hm : g ∈ gc :: (Value.slice (some ⟨g, 0, none⟩) (p ++ i :: q).length c).ownBlock.toList := by simp [Value.ownBlock]
  refine ⟨⟨hb, ?_⟩, ⟨(Chg.refl _ w).setCell (p := ⟨g, p.length * 8 + 1, none⟩) hm _, fun k hk => .inl hk⟩⟩
  have e : (p ++ { i with x := x } :: q).length = (p ++ i :: q).length := by simp
  rw [e]
  exact ho
theorem altX_two (x : Nat) : ∀ (ts : List T) (a : Nat), 2 * ts.length ≤ (altX x ts a).length
  | [], _ => by simp
  | t :: ts, a => by
    have := altX_two x ts (a + (codeT t (a + 1)).length + 2)
    simp only [altX, List.length_cons, List.length_append]
    omega
set_option maxHeartbeats 8000000 in
set_option maxRecDepth 20000 in
theorem nfAlt (ks : List T) (hN : ∀ u, u.size ≤ sizeL ks → NodeOK u) : AltOK ks := by
  intro w gc v code S A c cs a ha hne hgl hlen hC hc1 hc2 hR hSA hK hS
  subst ha
  obtain ⟨is, l, rfl⟩ : ∃ is l, ks = is ++ [l] := ⟨ks.dropLast, ks.getLast hne, (List.dropLast_concat_getLast hne).symm⟩
  have hkl : (is ++ [l]).length = is.length + 1 := by simp
  have HC := Lib.hid hC
  have HK := Lib.hid (show Kids (fun b => b < w.heap.size ∧ b ∉ gc :: v.ownBlock.toList) w A (is ++ [l]) cs from (Kids.mk hR hSA hK).map (fun b hb hs => ⟨hb, hS b hs⟩))
  have HLEN := Lib.hid hlen
  have HCP := Lib.hid (show is.length + 1 ≤ c ∧ c ≤ maxLen from ⟨by omega, hc2⟩)
  have HNN := Lib.hid hN
  have HGL := Lib.hid hgl
  have HGC := Lib.hid (show gc < w.heap.size from hC.blk.lt)
  have hcc : (is.length : Int) ≤ (c : Int) := by omega
  have hm63 : (c : Int) ≤ 9223372036854775807 := by unfold maxLen at hc2; omega
  have hw1 : IntKind.i64.wrap ((is.length : Int) + 1 - 1) = (is.length : Int) := by rw [wrap_id (by omega) (by omega)]; omega
  rw [hkl]
  clear hC hR hSA hK hS hN hlen hc1 hc2 hgl hkl hne
  go_enter Tryd.func66, Tryd.ntmps66
  go_upto_region 2 with fail
  go_loopg [4, 16] is.length (fun gg ev iv wr => ∃ (iq : Nat) (v' : Value), iq ≤ is.length ∧ gg = is.length - iq ∧ iv = .int .i64 (iq : Nat) ∧ CM wr gc v' (code ++ altX 0 (is.take iq) code.length) ∧ CN gc w v wr v' ∧ wr.ownsRow w.heap.size 3 1 ev iq (endsV (altE (is.take iq) code.length)))
  case atStart => exact ⟨0, v, Nat.zero_le _, by simp, rfl, by simpa [altX] using HC.out, CN.refl, ⟨rfl, .inl ⟨rfl, rfl⟩⟩⟩
  case round =>
    obtain ⟨iq, v', hi, rfl, rfl, hC', hN', hE'⟩ := hrel
    have HC' := Lib.hid hC'
    have HN' := Lib.hid hN'
    have HE' := Lib.hid hE'
    clear hC' hN' hE'
    by_cases hlt : iq < is.length
    · have hKr : Kids (fun b => b < w.heap.size ∧ b ∉ gc :: v.ownBlock.toList) wr A (is ++ [l]) cs := HK.out.chg HN'.out.ch (fun x hx h => h.2 hx)
      have hwi : IntKind.i64.wrap ((iq : Int) + 1) = (iq : Int) + 1 := wrap_id (by omega) (by omega)
      have hltk : iq < (is ++ [l]).length := by simp; omega
      obtain ⟨b, o, k', m', z', p', B', n', c', rfl, hkv, hkc⟩ := kid_at hKr.rd hKr.kv hltk
      obtain ⟨d0, d1, d2, d3, d4, d5, d6, d7⟩ := hkc.out _ (Ext.refl _)
      have hget : (is ++ [l])[iq]'hltk = is[iq]'hlt := List.getElem_append_left hlt
      rw [hget] at hkv
      have hx6 := Ext.new1 wr (.cells (nodeC k' m' z' p' B' n' c').toArray 27)
      have HX6 := Lib.hid hx6
      have HKV := Lib.hid (hkv.keep hx6)
      have HB6 := Lib.hid (NodeB.new wr k' m' z' p' B' n' c')
      have HTK := Lib.hid (List.take_succ_eq_append_getElem hlt)
      have HRO := Lib.hid (altX_room (l := l) (a := code.length) hlt)
      have HMEM := Lib.hid (show is[iq]'hlt ∈ is ++ [l] from List.mem_append_left _ (List.getElem_mem hlt))
      have HIQ := Lib.hid (show iq ≤ 390 by have h1 := altX_two 0 (is.take iq) code.length; have h2 := HRO.out; have h3 := HLEN.out; rw [List.length_take] at h1; omega)
      clear hkv hkc hx6 hKr hget hltk
      generalize is[iq]'hlt = u at *
      obtain ⟨c1, hc1⟩ : ∃ c1, code ++ altX 0 (is.take iq) code.length = c1 := ⟨_, rfl⟩
      have HC1 := Lib.hid hc1
      have HC1L := Lib.hid (show c1.length = code.length + (altX 0 (is.take iq) code.length).length by rw [← hc1, List.length_append])
      rw [hc1] at HC'
      clear hc1
      have HXG := Lib.hid HC'.out.lt
      unfold nodeC at HX6 HKV HB6
      go_upto_region 4 with fail
      generalize wr.alloc (.cells #[.int .i64 k', .int .i64 m', .bool z', .int .u64 (wd p' 0 : Nat), .int .u64 (wd p' 1 : Nat), .int .u64 (wd p' 2 : Nat), .int .u64 (wd p' 3 : Nat), .slice B' n' c'] 27) = w6 at *
      generalize wr.heap.size = g6 at *
      have HC6 := Lib.hid (HC'.out.keep HX6.out)
      have HN6 := Lib.hid (HN'.out.then_ext HX6.out)
      have HE6 := Lib.hid (own_ext HE'.out HX6.out)
      clear HC' HN' HE' d0 d1 d2 d3 d4 d5 d6 d7
      obtain ⟨y0, y1, y2, y3, y4, y5, y6, y7⟩ := HB6.out.cells
      go_upto_region 5 with (go_at_call 42; refine (nfPut0 3 0 0 0 _ (by have := HC1L.out; have := HRO.out; have := HLEN.out; omega) HC6.out).mono ?_; rintro e w2 ⟨rfl, v2, hC2, hN2⟩)
      have HC2 := Lib.hid hC2
      have HN2 := Lib.hid (HN6.out.trans hN2)
      have HE2 := Lib.hid (own_chg HE6.out hN2.ch (HC6.out.apart HE6.out HGC.out))
      have HKV2 := Lib.hid (HKV.out.chg hN2.ch (fun x hx hs => CN.far HN6.out hs.1 hs.2 hx))
      have hbn := HB6.out.chg hN2.ch (fun hm => by have := HXG.out g6 hm; omega)
      clear hC2 hN2 y0 y1 y2 y3 y4 y5 y6 y7
      obtain ⟨y0, y1, y2, y3, y4, y5, y6, y7⟩ := NodeB.cells hbn
      clear hbn
      go_upto_region 6 with (go_at_call 41; refine (HNN.out u (sizeL_mem HMEM.out) w2 gc v2 (c1 ++ [(⟨3, 0, 0, 0, fun _ => false⟩ : Ins)]) (fun b => b < w.heap.size ∧ b ∉ gc :: v.ownBlock.toList) _ (c1.length + 1) (by simp) (fullL_mem HGL.out HMEM.out) (by have := HC1L.out; have := HRO.out; have := HLEN.out; simp; omega) HC2.out HKV2.out (fun b hb => CN.far HN2.out hb.1 hb.2)).mono ?_; rintro e w3 ⟨rfl, v3, hC3, hN3⟩)
      clear y0 y1 y2 y3 y4 y5 y6 y7
      have HC3 := Lib.hid hC3
      have HN3 := Lib.hid (HN2.out.trans hN3)
      have HE3 := Lib.hid (own_chg HE2.out hN3.ch (HC2.out.apart HE2.out HGC.out))
      clear hC3 hN3
      obtain ⟨M, hM⟩ : ∃ M : Nat, (c1 ++ [(⟨3, 0, 0, 0, fun _ => false⟩ : Ins)] ++ codeT u (c1.length + 1)).length = M := ⟨_, rfl⟩
      have HMM := Lib.hid hM
      have HPUT := Lib.hid (nfPut0 2 0 0 0 w3 (by have := HC1L.out; have := HRO.out; have := HLEN.out; simp [codeT_len]; omega) HC3.out)
      rw [hM] at HPUT
      clear hM
      have HPUT2 := Lib.hid HPUT.out
      go_upto_region 7 with (first
        | (have := hN4; refine wpList_app2 Tryd.elemI rfl (.tmp 26) (.tmp 30) rfl (v := u4) (n := iq) (xs := endsV (altE (is.take iq) code.length)) rfl (own_ext HE4.out (Ext.new1 w4 (.cells #[.int .i64 (M : Nat)] 3))) (Nat.le_trans HN4.out.ch.size (Ext.new1 w4 (.cells #[.int .i64 (M : Nat)] 3)).size) (A := some ⟨w4.heap.size, 0, none⟩) (m := 1) (c := 1) (news := [.int .i64 (M : Nat)]) rfl (rd_newS w4 1 1 [.int .i64 (M : Nat)] 3 rfl) (by intro x hx; simp at hx; subst hx; rfl) (by have := HIQ.out; omega) (by have := HIQ.out; unfold maxLen; omega) ?_; intro v8 w8 hown8 hgr8 _ _)
        | (go_at_call 42; refine HPUT2.out.mono ?_; rintro e w4 ⟨rfl, v4, hC4, hN4⟩; have HC4 := Lib.hid hC4; have HN4 := Lib.hid (HN3.out.trans hN4); have HE4 := Lib.hid (own_chg HE3.out hN4.ch (HC3.out.apart HE3.out HGC.out))))
      have HC8 := Lib.hid ((HC4.out.keep (Ext.new1 w4 (.cells #[.int .i64 (M : Nat)] 3))).grew (own_ext HE4.out (Ext.new1 w4 (.cells #[.int .i64 (M : Nat)] 3))) HGC.out hgr8)
      have HN8 := Lib.hid ((HN4.out.then_ext (Ext.new1 w4 (.cells #[.int .i64 (M : Nat)] 3))).grew hgr8)
      have HE8 := Lib.hid hown8
      clear hC4 hN4 hown8 hgr8
      obtain ⟨L, hL⟩ : ∃ L : Nat, (c1 ++ (⟨3, 0, 0, 0, fun _ => false⟩ : Ins) :: (codeT u (c1.length + 1) ++ [(⟨2, 0, 0, 0, fun _ => false⟩ : Ins)])).length = L := ⟨_, rfl⟩
      have HLL := Lib.hid hL
      have HCF := Lib.hid (show CM w8 gc v4 (c1 ++ (⟨3, 0, 0, 0, fun _ => false⟩ : Ins) :: (codeT u (c1.length + 1) ++ [(⟨2, 0, 0, 0, fun _ => false⟩ : Ins)])) by have := HC8.out; simpa using this)
      have HHE := Lib.hid (show Calls Tryd.prog 65 #[.pointer (some ⟨gc, 0, none⟩)] w8 fun e w' => e = .returned (.int .i64 (L : Nat)) ∧ w' = w8 by have := nfHere w8 HCF.out; rw [hL] at this; exact this)
      have HL9 := Lib.hid (show (c1 ++ (⟨3, 0, 0, 0, fun _ => false⟩ : Ins) :: (codeT u (c1.length + 1) ++ [(⟨2, 0, 0, 0, fun _ => false⟩ : Ins)])).length ≤ 1000 by have := HC1L.out; have := HRO.out; have := HLEN.out; simp [codeT_len]; omega)
      have hwx : IntKind.i64.wrap ((c1.length : Int) + 1) = (c1.length : Int) + 1 := wrap_id (by omega) (by have := HC1L.out; have := HRO.out; have := HLEN.out; omega)
      clear hL
      go_wp2_with (first
        | (go_at_call 65; refine HHE.out.mono ?_; rintro e wh ⟨rfl, hwh⟩; obtain rfl : w8 = wh := hwh.symm)
        | (go_at_call 67; refine (nfFork (p := c1) (q := codeT u (c1.length + 1) ++ [(⟨2, 0, 0, 0, fun _ => false⟩ : Ins)]) (i := (⟨3, 0, 0, 0, fun _ => false⟩ : Ins)) _ _ false _ HCF.out HL9.out).mono ?_; rintro e w9 ⟨rfl, hC9, hN9⟩))
      have hE9 := own_chg HE8.out hN9.ch (HC8.out.apart HE8.out HGC.out)
      go_roundg (is.length - (iq + 1))
      case measure => omega
      case rel =>
        refine ⟨iq + 1, v4, by omega, rfl, rfl, ?_, HN8.out.trans hN9, ?_⟩
        · rw [HTK.out, altX_snoc 0 _ u _ c1.length HC1L.out, ← List.append_assoc, HC1.out]
          have e : iSplit (c1.length + 1) (c1.length + (codeT u (c1.length + 1)).length + 2) false = ⟨3, (c1.length : Int) + 1, (L : Int), 0, fun _ => false⟩ := by
            have h1 : L = c1.length + (codeT u (c1.length + 1)).length + 2 := by rw [← HLL.out]; simp; omega
            rw [h1]
            simp [iSplit]
          rw [e]
          exact hC9
        · rw [HTK.out, altE_snoc 0 _ u _ c1.length HC1L.out]
          have h2 : c1.length + (codeT u (c1.length + 1)).length + 1 = M := by rw [← HMM.out]; simp; omega
          rw [h2]
          unfold endsV at hE9 ⊢
          rw [List.map_append]
          exact hE9
    · obtain rfl : iq = is.length := by omega
      have hKr : Kids (fun b => b < w.heap.size ∧ b ∉ gc :: v.ownBlock.toList) wr A (is ++ [l]) cs := HK.out.chg HN'.out.ch (fun x hx h => h.2 hx)
      have hltk : is.length < (is ++ [l]).length := by simp
      obtain ⟨b, o, k', m', z', p', B', n', c', rfl, hkv, hkc⟩ := kid_at hKr.rd hKr.kv hltk
      obtain ⟨d0, d1, d2, d3, d4, d5, d6, d7⟩ := hkc.out _ (Ext.refl _)
      have hget : (is ++ [l])[is.length]'hltk = l := by simp
      rw [hget] at hkv
      have HKV := Lib.hid hkv
      clear hkv hkc hKr hget hltk
      have hC0 := HC'.out
      have hE0 := HE'.out
      rw [List.take_length] at hC0 hE0
      obtain ⟨c1, hc1⟩ : ∃ c1, code ++ altX 0 is code.length = c1 := ⟨_, rfl⟩
      have HC1 := Lib.hid hc1
      have HC1L := Lib.hid (show c1.length = code.length + (altX 0 is code.length).length by rw [← hc1, List.length_append])
      have HTOT := Lib.hid (show c1.length + lenT l ≤ 390 by have h1 := altX_lenA 0 is l code.length; have h2 := HLEN.out; rw [← hc1, List.length_append]; omega)
      rw [hc1] at hC0
      have HC0 := Lib.hid hC0
      have HE0 := Lib.hid hE0
      clear hC0 hE0 hc1 HC' HE'
      have hii : (is.length : Int) < (is.length : Int) + 1 := by omega
      go_upto_region 10 with (go_at_call 41; refine (HNN.out l (sizeL_mem (by simp)) wr gc v' c1 (fun b => b < w.heap.size ∧ b ∉ gc :: v.ownBlock.toList) _ c1.length rfl (fullL_mem HGL.out (by simp)) HTOT.out HC0.out HKV.out (fun b hb => CN.far HN'.out hb.1 hb.2)).mono ?_; rintro e w2 ⟨rfl, v2, hC2, hN2⟩)
      have HC2 := Lib.hid hC2
      have HN2 := Lib.hid (HN'.out.trans hN2)
      have HE2 := Lib.hid (own_chg HE0.out hN2.ch (HC0.out.apart HE0.out HGC.out))
      clear hC2 hN2 d0 d1 d2 d3 d4 d5 d6 d7 HC0 HE0
      obtain ⟨A9, c9, hu4, _, _, _⟩ := own_rd HE2.out
      subst hu4
      go_upto_region 11 with fail
      obtain ⟨E, hE⟩ : ∃ E : Nat, c1.length + (codeT l c1.length).length = E := ⟨_, rfl⟩
      have HEE := Lib.hid hE
      clear hE
      go_loopg [50] is.length (fun gg iv wz => ∃ (j bj : Nat), j ≤ is.length ∧ gg = is.length - j ∧ iv = .int .i64 (j : Nat) ∧ bj = code.length + (altX E (is.take j) code.length).length ∧ CM wz gc v2 (code ++ altX E (is.take j) code.length ++ (altX 0 (is.drop j) bj ++ codeT l c1.length)) ∧ CN gc w v wz v2 ∧ wz.ownsRow w.heap.size 3 1 (.slice A9 is.length c9) is.length (endsV (altE is code.length)))
      case atStart => exact ⟨0, code.length, Nat.zero_le _, by simp, rfl, by simp [altX], by have := HC2.out; rw [← HC1.out] at this ⊢; simpa [altX] using this, HN2.out, HE2.out⟩
      case round =>
        obtain ⟨j, bj, hj, rfl, rfl, hbj, hCz, hNz, hEz⟩ := hrel
        have HCZ := Lib.hid hCz
        have HNZ := Lib.hid hNz
        have HEZ := Lib.hid hEz
        have HBJ := Lib.hid hbj
        clear hCz hNz hEz hbj HC2 HN2 HE2
        by_cases hlj : j < is.length
        · obtain ⟨b2, hb2, hat, hdr⟩ := altE_at E is code.length j (is[j]'hlj) (List.getElem?_eq_getElem hlj)
          obtain rfl : b2 = bj := hb2.trans HBJ.out.symm
          have HTK := Lib.hid (List.take_succ_eq_append_getElem hlj)
          generalize is[j]'hlj = t at *
          have hwj : IntKind.i64.wrap ((j : Int) + 1) = (j : Int) + 1 := wrap_id (by omega) (by omega)
          obtain ⟨P, hP⟩ : ∃ P : Nat, b2 + (codeT t (b2 + 1)).length + 1 = P := ⟨_, rfl⟩
          rw [hP] at hat
          obtain ⟨pp, hpp⟩ : ∃ pp, code ++ altX E (is.take j) code.length ++ (iSplit (b2 + 1) (b2 + (codeT t (b2 + 1)).length + 2) false :: codeT t (b2 + 1)) = pp := ⟨_, rfl⟩
          have hppl : pp.length = P := by rw [← hpp, ← hP, HBJ.out]; simp; omega
          obtain ⟨qq, hqq⟩ : ∃ qq, altX 0 (is.drop (j + 1)) (b2 + (codeT t (b2 + 1)).length + 2) ++ codeT l c1.length = qq := ⟨_, rfl⟩
          have hcj : CM wr gc v2 (pp ++ (⟨2, 0, 0, 0, fun _ => false⟩ : Ins) :: qq) := by
            have := HCZ.out
            rw [hdr 0] at this
            rw [← hpp, ← hqq]
            simpa [iJump] using this
          have hLE : (pp ++ (⟨2, 0, 0, 0, fun _ => false⟩ : Ins) :: qq).length = E := by
            have h1 := congrArg List.length (altX_app 0 (is.take j) (is.drop j) code.length b2 (by rw [HBJ.out, altX_len E 0]))
            rw [List.take_append_drop, List.length_append, hdr 0] at h1
            have h2 := altX_len E 0 (is.take j) code.length
            have h3 := HC1L.out
            rw [← HEE.out, ← hpp, ← hqq]
            simp only [List.length_append, List.length_cons] at h1 ⊢
            omega
          obtain ⟨g, cg, hv2, hcg1, hcg2, hgg, hfz, hcl⟩ := own_blk8 hcj.own (by simp; omega)
          subst hv2
          have e0 : codeV (pp ++ (⟨2, 0, 0, 0, fun _ => false⟩ : Ins) :: qq) = codeV pp ++ (insV ⟨2, 0, 0, 0, fun _ => false⟩ ++ codeV qq) := by rw [codeV_app]; rfl
          have o1 : wr.cell? ⟨g, P * 8 + 1, none⟩ = some (.int .i64 0) := hcl _ _ (by rw [e0, List.getElem?_append_right (by rw [codeV_len, hppl]; omega), codeV_len, hppl, show P * 8 + 1 - P * 8 = 1 by omega]; rfl)
          have f1 := hfz (P * 8 + 1)
          have hy : wr.cell? ⟨gc, 0, none⟩ = some (.slice (some ⟨g, 0, none⟩) E cg) := by rw [← hLE]; exact hcj.blk.cell 0
          have hpe : (P : Int) < (E : Int) := by
            have : P < E := by rw [← hLE, ← hppl]; simp
            omega
          have HHE := Lib.hid (show ∀ w5 : World, Ext wr w5 → Calls Tryd.prog 65 #[.pointer (some ⟨gc, 0, none⟩)] w5 fun e w' => e = .returned (.int .i64 (E : Nat)) ∧ w' = w5 from fun w5 hx => by have := nfHere w5 (hcj.keep hx); rw [hLE] at this; exact this)
          obtain ⟨A8, cA, hA8, _, _, hrd⟩ := own_rd HEZ.out
          obtain ⟨be, oe, hA9, _, hce⟩ := hrd.2 (by rw [hrd.1]; omega)
          have hce2 := hce j (.int .i64 (P : Nat)) (by unfold endsV; rw [List.getElem?_map, hat]; rfl)
          cases hA8
          subst hA9
          have HCJ := Lib.hid hcj
          have HLE := Lib.hid hLE
          have HPL := Lib.hid hppl
          have HPP := Lib.hid hpp
          have HQQ := Lib.hid hqq
          have HPE := Lib.hid hP
          clear hcj hLE hppl hpp hqq hP hcl hfz hce hrd e0 hat hdr hb2 hcg1
          go_upto_region 13 with fail
          go_region_with (go_at_call 65; refine (HHE.out _ ((Below.refl _ _).drew)).mono ?_; rintro e wh ⟨rfl, hwh⟩; subst hwh)
          all_goals
            have hJ := HCJ.out.jumped rfl hgg (E : Int)
            rw [HPL.out] at hJ
            obtain ⟨hC9, hN9⟩ := hJ
            have hE9 := own_ext (own_chg HEZ.out hN9.ch (HCJ.out.apart HEZ.out HGC.out)) ((Below.refl _ _).drew)
            have HC9 := Lib.hid (hC9.keep ((Below.refl _ _).drew))
            have HN9 := Lib.hid (HNZ.out.trans (hN9.then_ext ((Below.refl _ _).drew)))
            have HE9 := Lib.hid hE9
            clear hC9 hN9 hE9
            generalize (wr.setCell ⟨g, P * 8 + 1, none⟩ (.int .i64 (E : Nat))).drew = w9 at *
            go_wp2
            go_roundg (is.length - (j + 1))
            case measure => omega
            case rel =>
              refine ⟨j + 1, b2 + (codeT t (b2 + 1)).length + 2, by omega, rfl, rfl, ?_, ?_, HN9.out, HE9.out⟩
              · rw [HTK.out, altX_snoc E _ t _ b2 HBJ.out]
                have := HBJ.out
                simp only [List.length_append, List.length_cons, List.length_nil]
                omega
              · have e : code ++ (altX E (is.take j) code.length ++ iSplit (b2 + 1) (b2 + (codeT t (b2 + 1)).length + 2) false :: (codeT t (b2 + 1) ++ [iJump E])) ++ (altX 0 (is.drop (j + 1)) (b2 + (codeT t (b2 + 1)).length + 2) ++ codeT l c1.length) = pp ++ (⟨2, (E : Int), 0, 0, fun _ => false⟩ : Ins) :: qq := by
                  rw [← HPP.out, ← HQQ.out]
                  simp [iJump]
                rw [HTK.out, altX_snoc E _ t _ b2 HBJ.out, e]
                exact HC9.out
        · obtain rfl : j = is.length := by omega
          go_wp2
          go_end0
          refine ⟨rfl, v2, ?_, HNZ.out⟩
          have h1 := HCZ.out
          have hb : c1.length = code.length + (altX 0 is code.length).length := HC1L.out
          rw [List.take_length, List.drop_length] at h1
          rw [codeAlt_init is l code.length c1.length hb, HEE.out]
          simpa [altX] using h1
end Go.Proofs.YtdhmfgaiomfodaaDoor
namespace Go.Proofs.YtdhmfgaiomfodaaDoor
open Go Go.RowKit
attribute [local irreducible] wd

theorem nfAll : ∀ n, ∀ t : T, t.size ≤ n → NodeOK t := by
  intro n
  induction n with
  | zero => intro t ht; have := size_pos t; omega
  | succ n ih => exact fun t ht => nfNode t (fun u hu => ih u (by omega)) (fun ks hk => nfAlt ks (fun u hu => ih u (by omega)))

theorem kidsOk_some {k : Int} {n : Nat} (h : kidsOk k n = true) (h4 : 4 ≤ k) : n ≠ 0 := by
  intro e
  subst e
  unfold kidsOk at h
  simp at h
  omega
mutual
theorem right_full : ∀ (t : T) (d g : Nat), (t.right d g).1 = true → g + t.groups ≤ 999 → t.full
  | .node k m z p ks, d, g => by
    intro h hgr
    have hL := rightL_full ks (d + 1) (if k = 8 then g + 1 else g)
    unfold T.groups at hgr
    unfold T.right at h
    split at h
    · cases h
    · rename_i h1
      split at h
      · cases h
      · rename_i h2
        simp only [Bool.and_eq_true] at h
        have hk : kidsOk k ks.length = true := by
          cases hk : kidsOk k ks.length
          · exact absurd (.inr (.inl hk)) h1
          · rfl
        obtain ⟨a1, a2, a3⟩ := kidsOk_kind hk
        have hm : k = 8 → m = (g : Int) + 1 := fun h8 => by
          by_cases hm : m = (g : Int) + 1
          · exact hm
          · exact absurd ⟨h8, hm⟩ h2
        unfold T.full
        refine ⟨a1, a2, fun h4 e => kidsOk_some hk h4 (by rw [e]; rfl), fun h8 => ?_, hL h.1 (by split at hgr <;> rename_i h8 <;> simp only [h8, if_true, if_false] <;> omega)⟩
        have := hm h8
        rw [if_pos h8] at hgr
        omega
theorem rightL_full : ∀ (ks : List T) (d g : Nat), (rightL ks d g).1 = true → g + groupsL ks ≤ 999 → fullL ks
  | [], _, _ => by intro _ _; unfold fullL; trivial
  | t :: ts, d, g => by
    intro h hgr
    have h1 := right_full t d g
    have hm := right_more t d g
    unfold groupsL at hgr
    unfold rightL at h
    split at h
    · rename_i h2
      unfold fullL
      exact ⟨h1 h2 (by omega), rightL_full ts d _ h (by rw [hm h2]; omega)⟩
    · cases h
end
end Go.Proofs.YtdhmfgaiomfodaaDoor
namespace Go.Proofs.YtdhmfgaiomfodaaDoor
open Go Go.RowKit
attribute [local irreducible] wd

theorem pg_size : (Tryd.prog.info? 32).map (·.size) = some 2 := by kernel_rfl
theorem store_pg {w : World} {ops : Array Oper} {rest : List Oper} {o : Oper} {a : Act} {Q : Exit → Act → World → Prop} (hgd : o.guard = none) (x y : Operand) (ho : o.op = .store 32 x y)
    {g : Nat} {old : List Value} (new : List Value) (hx : a.eval x = .pointer (some ⟨g, 0, none⟩)) (hy : a.eval y = .agg new.toArray) (hg : Blk w g 32 old) (h8 : old.length = 2) (n8 : new.length = 2) (h1 : new.all (·.oneCell') = true)
    (h : wpList Tryd.prog ops Q rest (a.put o.dst undef) (w.setRow g new.toArray)) : wpList Tryd.prog ops Q (o :: rest) a w :=
  wpList_store_row hgd _ x y ho g new.toArray hx hy _ old.toArray hg (by rw [List.size_toArray, n8]; exact pg_size) (by rw [List.size_toArray, List.size_toArray, h8, n8]) (by simpa using h1) h
theorem results_pg2 {fn : Func} {p a : Tmp} (h : fn.results = #[.cell p 32, .tmp a]) {tmps : Array Value} {w : World} {g : Nat} {cs : List Value} {va : Value}
    (hp : tmps.getD p undef = .pointer (some ⟨g, 0, none⟩)) (hg : Blk w g 32 cs) (h8 : cs.length = 2) (ha : tmps.getD a undef = va) : (results fn tmps).run Tryd.prog w = .ok (.tuple #[.agg cs.toArray, va]) w := by
  have hp' : tmps[p]?.getD undef = .pointer (some ⟨g, 0, none⟩) := by simpa using hp
  have hl : (loadVar 32 ⟨g, 0, none⟩).run Tryd.prog w = .ok (.agg cs.toArray) w :=
    run_loadVar_row w g _ _ cs.toArray (0, 0) _ hg Tryd.underlying32 rfl (by rw [List.size_toArray, h8]; exact pg_size)
  subst ha
  simp [results, h, hp', asAddr, hl]

set_option maxHeartbeats 8000000 in
set_option maxRecDepth 20000 in
theorem nfCompile (t : T) (hr : (t.right 1 0).1 = true) (hg : t.groups ≤ 9) (hs : t.size ≤ 100) (S : Nat → Prop) (w : World) (nv : List Value) (hv : NodeV S w t nv) :
    Calls Tryd.prog 12 #[.agg nv.toArray] w fun e w' => Ext w w' ∧ ∃ A c, e = .returned (.tuple #[.agg #[.slice A (codeT t 0 ++ [iMatch]).length c, .int .i64 (t.groups : Nat)], .nilIface]) ∧ Rd w' 8 A (codeT t 0 ++ [iMatch]).length (codeV (codeT t 0 ++ [iMatch])) ∧ (codeT t 0 ++ [iMatch]).length ≤ c ∧ c ≤ maxLen ∧ (∀ b o x, A = some ⟨b, o, x⟩ → w.heap.size ≤ b) := by
  obtain ⟨k, m, z, p, B, n, c, rfl⟩ := nodeV_form hv
  have hx1 := Ext.new1 w (.cells (nodeC k m z p B n c).toArray 27)
  have HB := Lib.hid (NodeB.new w k m z p B n c)
  have HR := Lib.hid hr
  have HG := Lib.hid hg
  have HS := Lib.hid hs
  have HX1 := Lib.hid hx1
  have HV := Lib.hid (show NodeV (fun b => b < w.heap.size) w t _ from hv.mono (fun b hb _ => hb))
  clear hv hr hs hx1
  unfold nodeC at HB HX1 HV ⊢
  go_enter Tryd.func12, Tryd.ntmps12
  go_upto_region 1 with fail
  obtain ⟨gb, hgb⟩ : ∃ gb, w.heap.size = gb := ⟨_, rfl⟩
  have HGW := Lib.hid (show w.heap.size ≤ gb from Nat.le_of_eq hgb)
  have hxp := Ext.new1 (w.alloc (.cells #[.int .i64 k, .int .i64 m, .bool z, .int .u64 (wd p 0 : Nat), .int .u64 (wd p 1 : Nat), .int .u64 (wd p 2 : Nat), .int .u64 (wd p 3 : Nat), .slice B n c] 27)) (.cells #[.slice none 0 0, .int .i64 0] 32)
  have HBa := Lib.hid (HB.out.keep hxp)
  have HPa := Lib.hid (Blk.newA (w := w.alloc (.cells #[.int .i64 k, .int .i64 m, .bool z, .int .u64 (wd p 0 : Nat), .int .u64 (wd p 1 : Nat), .int .u64 (wd p 2 : Nat), .int .u64 (wd p 3 : Nat), .slice B n c] 27)) (g := w.heap.size + 1) (by simp) 32 [.slice none 0 0, .int .i64 0])
  have HXa := Lib.hid (Ext.trans HX1.out hxp)
  have HVa := Lib.hid (HV.out.keep HXa.out)
  clear hxp HB HX1 HV
  generalize (w.alloc (.cells #[.int .i64 k, .int .i64 m, .bool z, .int .u64 (wd p 0 : Nat), .int .u64 (wd p 1 : Nat), .int .u64 (wd p 2 : Nat), .int .u64 (wd p 3 : Nat), .slice B n c] 27)).alloc (.cells #[.slice none 0 0, .int .i64 0] 32) = wa at *
  rw [hgb] at HBa HPa ⊢
  have hg9 : ¬ (9 : Int) < (t.groups : Int) := by have := HG.out; omega
  obtain ⟨b0, b1, b2, b3, b4, b5, b6, b7⟩ := HBa.out.cells
  go_upto_region 6 with (first
    | (have := hx1; go_at_call 15; refine (rxGroups t.size t (Nat.le_refl _) (by have := HS.out; omega) _ _ _ (HVa.out.keep hx1)).mono ?_; rintro e w2 ⟨rfl, hx2⟩)
    | (go_at_call 13; refine (rxRight t (by have := HS.out; omega) _ _ _ HVa.out).mono ?_; rintro e w1 ⟨rfl, hx1⟩; rw [HR.out]; obtain ⟨d0, d1, d2, d3, d4, d5, d6, d7⟩ := (HBa.out.keep hx1).cells))
  have hx3 := Ext.new1 w2 (.cells #[.slice none 0 0] 83)
  have HX3 := Lib.hid (Ext.trans (Ext.trans hx1 hx2) hx3)
  obtain ⟨gc, hgc⟩ : ∃ gc, w2.heap.size = gc := ⟨_, rfl⟩
  have HCM := Lib.hid (show CM (w2.alloc (.cells #[.slice none 0 0] 83)) gc (.slice none 0 0) [] from ⟨Blk.newA hgc _ [.slice none 0 0], ⟨rfl, .inl ⟨rfl, rfl⟩⟩⟩)
  have HGC := Lib.hid (show wa.heap.size ≤ gc from hgc ▸ (Ext.trans hx1 hx2).size)
  clear hx1 hx2 hx3 b0 b1 b2 b3 b4 b5 b6 b7 d0 d1 d2 d3 d4 d5 d6 d7
  go_upto_region 7 with fail
  rw [hgc] at *
  generalize w2.alloc (.cells #[.slice none 0 0] 83) = wc at *
  obtain ⟨b0, b1, b2, b3, b4, b5, b6, b7⟩ := (HBa.out.keep HX3.out).cells
  have HGOOD := Lib.hid (right_good t 1 0 HR.out)
  have HFULL := Lib.hid (right_full t 1 0 HR.out (by have := HG.out; omega))
  have HLT := Lib.hid (show lenT t ≤ 300 by have := lenT_le t HGOOD.out; have := HS.out; omega)
  go_upto_region 8 with (go_at_call 41; refine (nfAll t.size t (Nat.le_refl _) wc gc (.slice none 0 0) [] (fun b => b < w.heap.size) _ 0 rfl HFULL.out (by have := HLT.out; simp; omega) HCM.out (HVa.out.keep HX3.out) (fun b hb hm => by simp [Value.ownBlock] at hm; have h1 := HGC.out; have h2 : b < w.heap.size := hb; have h3 := Blk.lt HBa.out; omega)).mono ?_; rintro e w3 ⟨rfl, v3, hC3, hN3⟩)
  have HC3 := Lib.hid hC3
  have HN3 := Lib.hid hN3
  have HLC := Lib.hid (codeT_len t 0)
  simp only [List.nil_append] at HC3
  clear hC3 hN3 b0 b1 b2 b3 b4 b5 b6 b7
  go_upto_region 9 with (go_at_call 42; refine (nfPut0 5 0 0 0 w3 (by have := HLC.out; have := HLT.out; omega) HC3.out).mono ?_; rintro e w4 ⟨rfl, v4, hC4, hN4⟩)
  have HC4 := Lib.hid hC4
  have HN4 := Lib.hid (HN3.out.trans hN4)
  clear hC4 hN4
  obtain ⟨L, hL⟩ : ∃ L : Nat, (codeT t 0 ++ [(⟨5, 0, 0, 0, fun _ => false⟩ : Ins)]).length = L := ⟨_, rfl⟩
  have HLL := Lib.hid (show L ≤ 301 by have := HLC.out; have := HLT.out; rw [← hL]; simp; omega)
  obtain ⟨A, cp, hv4, hcp, hcm, hrd⟩ := HC4.out.sh
  rw [hL] at hv4 hcp hrd
  subst hv4
  have hy : w4.cell? ⟨gc, 0, none⟩ = some (.slice A L cp) := HC4.out.blk.cell 0
  have hl4 : ¬ (400 : Int) < (L : Int) := by have := HLL.out; omega
  have HP4 := Lib.hid (HPa.out.keep HX3.out)
  have HP5 := Lib.hid (HP4.out.chg HN4.out.ch (by
    intro hm
    have h1 := HGC.out
    have h2 := Blk.lt HPa.out
    simp [Value.ownBlock] at hm
    omega))
  obtain ⟨g, cg, hv5, _, _, hgg, _⟩ := own_blk8 HC4.out.own (by simp)
  have hAg : A = some ⟨g, 0, none⟩ := by cases hv5; rfl
  have HFIN := Lib.hid (show ∀ b o x, A = some ⟨b, o, x⟩ → w.heap.size ≤ b from fun b o x e => by
    rw [hAg] at e
    cases e
    have h1 := HXa.out.size
    have h2 := HGC.out
    omega)
  have HEX := Lib.hid (show Ext w w4 from ((Chg.of_ext (X := [gc]) (Ext.trans HXa.out HX3.out)).trans (show Chg [gc] wc w4 from HN4.out.ch)).new (by have h1 := HXa.out.size; have h2 := HGC.out; omega))
  have HRD := Lib.hid hrd
  have HAG := Lib.hid hAg
  have HGG := Lib.hid hgg
  have hL2 : (codeT t 0).length + 1 = L := by rw [← hL]; simp
  have HGB := Lib.hid (show w.heap.size ≤ gb from HGW.out)
  clear hv5 hAg hrd hgg
  go_wp2_with (refine store_pg rfl (.tmp 2) (.tmp 38) rfl (g := gb + 1) [.slice A L cp, .int .i64 (t.groups : Nat)] rfl rfl HP5.out rfl rfl rfl ?_)
  refine bodyPost_ret (v := .tuple #[.agg ([.slice A L cp, .int .i64 (t.groups : Nat)] : List Value).toArray, .nilIface]) (results_pg2 rfl rfl (Blk.row HP5.out _) rfl rfl) rfl ⟨HEX.out.rowX _ _ (by have := HGB.out; omega), A, cp, ?_, ?_, ?_, hcm, fun b o x e => Nat.le_trans (Nat.le_of_eq hgb.symm) (HFIN.out b o x e)⟩
  · rfl
  · have h := HRD.out.chg (X := [gb + 1]) (rowChg w4 (gb + 1) [.slice A L cp, .int .i64 (t.groups : Nat)].toArray (List.mem_singleton.2 rfl)) (fun _ b o x e hm => by rw [HAG.out] at e; cases e; simp at hm; have h1 := HGG.out; have h2 := HGC.out; have h3 := Blk.lt HPa.out; omega)
    exact h
  · exact hcp
end Go.Proofs.YtdhmfgaiomfodaaDoor
