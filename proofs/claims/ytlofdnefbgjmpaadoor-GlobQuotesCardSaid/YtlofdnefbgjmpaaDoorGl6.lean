/- Globs: Quote, Word. -/
import Derived.Test.YtlofdnefbgjmpaaDoorGl5
namespace Go.Proofs.YtlofdnefbgjmpaaDoor
open Go Go.RowKit
attribute [local irreducible] wd

theorem rd_same {w w' : World} {b n : Nat} {cs : List Value} (h : Rd w 1 (some ⟨b, 0, none⟩) n cs) (hs : w.heap.size ≤ w'.heap.size) (hb : w'.heap[b]? = w.heap[b]?) : Rd w' 1 (some ⟨b, 0, none⟩) n cs :=
  ⟨h.1, fun hn => by
    obtain ⟨b', o, e, hlt, hc⟩ := h.2 hn
    cases e
    exact ⟨b, 0, rfl, Nat.lt_of_lt_of_le hlt hs, fun j u hu => by rw [← hc j u hu]; unfold World.cell?; rw [hb]⟩⟩
theorem quote_take {l : List UInt8} {k : Nat} (h : k < l.length) : quoteG (l.take (k + 1)) = quoteG (l.take k) ++ quoteC l[k] := by
  unfold quoteG
  rw [List.take_succ_eq_append_getElem h, List.flatMap_append]
  simp
theorem quote_len4 (l : List UInt8) : (quoteG l).length ≤ 4 * l.length := by
  induction l with
  | nil => simp [quoteG]
  | cons c r ih =>
    have e : quoteG (c :: r) = quoteC c ++ quoteG r := by unfold quoteG; rw [List.flatMap_cons]
    have : (quoteC c).length ≤ 4 := by unfold quoteC; split <;> simp
    rw [e, List.length_append, List.length_cons]
    omega

set_option maxHeartbeats 8000000 in
set_option maxRecDepth 20000 in
theorem glQuote (l : List UInt8) (hl : l.length ≤ 10000) (w : World) :
    Calls Tryd.prog 15 #[.string ⟨l.toArray⟩] w fun e w' => e = .returned (.string ⟨(quoteG l).toArray⟩) ∧ Ext w w' := by
  obtain ⟨gz, hgz⟩ : ∃ gz, w.heap.size = gz := ⟨_, rfl⟩
  have hN0 := Lib.hid (Blk.newA (w := w) hgz 93 [.pointer none, .slice none 0 0])
  have hx0 := Lib.hid (Ext.new1 w (.cells #[.pointer none, .slice none 0 0] 93))
  have HGZ := Lib.hid (Nat.le_of_eq hgz)
  go_enter Tryd.func15, Tryd.ntmps15
  go_upto_region 2 with fail
  generalize w.alloc (.cells #[.pointer none, .slice none 0 0] 93) = w1 at *
  obtain ⟨cap, w2, hconv, hrd, hb2, _, _⟩ := conv_bytes (P := Tryd.prog) w1 Tryd.underlying9 Tryd.underlying91 Tryd.underlying5 l (by omega)
  have HRD := Lib.hid hrd
  have HX2 := Lib.hid (Ext.trans hx0.out hb2)
  have HN2 := Lib.hid (hN0.out.keep hb2)
  have HGB := Lib.hid (show l ≠ [] → w1.heap.size < w2.heap.size from fun h0 => by
    obtain ⟨b', o, e, hlt, _⟩ := hrd.2 (by simp [bytesV]; exact List.length_pos_iff.2 h0)
    cases e
    exact hlt)
  have HZ1 := Lib.hid (show gz < w1.heap.size from hN0.out.lt)
  go_upto_region 3 with fail
  clear hconv hrd hb2 hN0 hx0
  generalize w1.heap.size = gb at *
  have HQ2 := Lib.hid (show BQ w2 w2.heap.size gz (quoteG []) from ⟨HN2.out.lt, Nat.le_refl _, none, .slice none 0 0, .inl rfl, HN2.out, ⟨rfl, .inl ⟨rfl, rfl⟩⟩⟩)
  go_loopg [9] l.length (fun gg iv wr => ∃ k : Nat, k ≤ l.length ∧ gg = l.length - k ∧ iv = .int .i64 (k : Nat) ∧ BQ wr w2.heap.size gz (quoteG (l.take k)) ∧ Nr w2.heap.size gz w2 wr)
  case atStart => exact ⟨0, Nat.zero_le _, by simp, rfl, HQ2.out, Nr.refl _ _ _⟩
  case round =>
    obtain ⟨iq, hi, rfl, rfl, hq, hn⟩ := hrel
    have HQ := Lib.hid hq
    have HN := Lib.hid hn
    have HQL := Lib.hid (show (quoteG (l.take iq)).length + 8 ≤ 1000000 by have := quote_len4 (l.take iq); rw [List.length_take] at this; omega)
    clear hq hn HQ2
    by_cases hlt : iq < l.length
    · have hcell : wr.cell? ⟨gb, iq, none⟩ = some (.int .u8 (l[iq].toNat : Int)) := by
        have hne : l ≠ [] := fun e => by subst e; simp at hlt
        obtain ⟨b, o, e, _, hc⟩ := (rd_same HRD.out HN.out.size (HN.out.block gb (HGB.out hne) (by have := HZ1.out; omega))).2 (by simp [bytesV]; omega)
        cases e
        have := hc iq _ (List.getElem?_eq_getElem (by simp [bytesV]; omega))
        simpa [bytesV, U8] using this
      have hwi : IntKind.i64.wrap ((iq : Int) + 1) = (iq : Int) + 1 := wrap_id (by omega) (by omega)
      have HT := Lib.hid (quote_take hlt)
      generalize l[iq]'hlt = c at *
      have h256 := UInt8.toNat_lt c
      generalize quoteG (l.take iq) = lq at *
      cases hp : plainB c
      · have HP := Lib.hid hp
        have HQC := Lib.hid (show quoteC c = [92, 120, hexC (c.toNat / 16), hexC (c.toNat % 16)] by unfold quoteC; rw [if_neg (by rw [hp]; simp)])
        have hx0 : ∀ w, (Instr.index 9 (.string ⟨hexL.toArray⟩) (.int .u8 ((c.toNat : Int) / 16))).run Tryd.prog w = .ok (.int .u8 (hexC (c.toNat / 16)).toNat) w := fun w => ix_str (t := 9) Tryd.underlying9 hexL .u8 (c.toNat / 16) _ (hexL_at _ (by omega)) w
        have hx1 : ∀ w, (Instr.index 9 (.string ⟨hexL.toArray⟩) (.int .u8 ((c.toNat : Int) % 16))).run Tryd.prog w = .ok (.int .u8 (hexC (c.toNat % 16)).toNat) w := fun w => ix_str (t := 9) Tryd.underlying9 hexL .u8 (c.toNat % 16) _ (hexL_at _ (by omega)) w
        have hm : bits BinOp.and IntKind.u8 (c.toNat : Int) 15 = (c.toNat : Int) % 16 := (u8_and_nat c.toNat 15 h256 (by omega)).trans (by rw [Nat.and_two_pow_sub_one_eq_mod c.toNat 4]; rfl)
        unfold hexL at hx0 hx1
        generalize hexC (c.toNat / 16) = x at *
        generalize hexC (c.toNat % 16) = y at *
        clear hp
        go_upto_region 6 with (go_at_call 51; refine (glIsPlain c _).mono ?_; rintro e wA ⟨rfl, rfl⟩; rw [HP.out])
        refine (bqStr [92, 120] _ HQ.out (by have := HQL.out; simp; omega)).mono ?_
        rintro e wB ⟨rfl, hq1, hn1⟩
        go_wp2_with (first
          | (have := hq2; go_at_call 52; refine (bqByte y _ hq2 (by have := HQL.out; simp; omega)).mono ?_; rintro e wD ⟨rfl, hq3, hn3⟩)
          | (go_at_call 52; refine (bqByte x _ hq1 (by have := HQL.out; simp; omega)).mono ?_; rintro e wC ⟨rfl, hq2, hn2⟩))
        go_roundg (l.length - (iq + 1))
        case measure => omega
        case rel => exact ⟨iq + 1, by omega, rfl, rfl, by rw [HT.out, HQC.out]; simpa using hq3, ((HN.out.trans hn1).trans hn2).trans hn3⟩
      · have HP := Lib.hid hp
        have HQC := Lib.hid (show quoteC c = [c] by unfold quoteC; rw [if_pos hp])
        clear hp
        go_wp2_with (first
          | (go_at_call 51; refine (glIsPlain c _).mono ?_; rintro e wA ⟨rfl, rfl⟩; rw [HP.out])
          | (go_at_call 52; refine (bqByte c _ HQ.out (by have := HQL.out; omega)).mono ?_; rintro e wB ⟨rfl, hq1, hn1⟩))
        go_roundg (l.length - (iq + 1))
        case measure => omega
        case rel => exact ⟨iq + 1, by omega, rfl, rfl, by rw [HT.out, HQC.out]; exact hq1, HN.out.trans hn1⟩
    · obtain rfl : iq = l.length := by omega
      have HT := Lib.hid (show BldAt wr gz gz (quoteG l) by have := HQ.out.at_; rwa [List.take_length] at this)
      have HSZ := Lib.hid (show gz ≤ wr.heap.size from Nat.le_trans (Nat.le_of_lt HN2.out.lt) HN.out.size)
      go_wp2_with (go_at_call 54; refine (bldText gz gz (quoteG l) _ HT.out HSZ.out).mono ?_; rintro e wZ ⟨rfl, hbz⟩)
      go_ret
      have hx3 : Ext w wr := HN.out.ext HX2.out HX2.out.size HGZ.out
      exact ⟨rfl, Below.trans hx3 (hbz.mono HGZ.out)⟩

set_option maxHeartbeats 2000000 in
set_option maxRecDepth 20000 in
theorem glWord2 (w : World) (h : w.cell? ⟨5, 2, none⟩ = some (.string ⟨#[103, 108, 111, 98]⟩)) :
    Calls Tryd.prog 46 #[.int .i64 2] w fun e w' => e = .returned (.string ⟨#[103, 108, 111, 98]⟩) ∧ w' = w := by
  go_enter Tryd.func46, Tryd.ntmps46
  go_wp2
  go_ret
  exact ⟨rfl, rfl⟩
end Go.Proofs.YtlofdnefbgjmpaaDoor
