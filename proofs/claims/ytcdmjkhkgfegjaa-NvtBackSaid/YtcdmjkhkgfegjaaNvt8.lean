/- layer 8: NvtBack: the plain law and the walk. -/
import Derived.Test.YtcdmjkhkgfegjaaNvt7
namespace Go.Proofs.Ytcdmjkhkgfegjaa
open Go.RowKit

theorem decGo_enc1 (p : List UInt8) : ∀ (s : Bool) (rest : List (UInt8 × Bool)), (s = true → p.head? = some 10) → decGo s (sameRaw (enc1 p) false ++ rest) = p ++ decGo false rest := by
  induction p with
  | nil =>
    intro s rest h
    cases s
    · simp [sameRaw, enc1]
    · simp at h
  | cons c r ih =>
    intro s rest h
    have hg : isGone c false s = false := by
      cases s
      · simp [isGone]
      · have := h rfl; simp at this; subst this; simp [isGone]
    unfold enc1
    by_cases h1 : c = 13 ∧ r.head? ≠ some 10
    · rw [if_pos h1]
      obtain ⟨rfl, h2⟩ := h1
      have := ih false rest (by simp)
      simp only [sameRaw, List.cons_append, List.nil_append, List.map_cons, decGo, hg, cond_false] at this ⊢
      simp [isGone, isCr]
      exact this
    · rw [if_neg h1]
      have hs : isCr c false = true → r.head? = some 10 := by
        intro h3
        have h4 : c = 13 := by simpa [isCr] using h3
        by_cases h5 : r.head? = some 10
        · exact h5
        · exact absurd ⟨h4, h5⟩ h1
      have := ih (isCr c false) rest hs
      simp only [sameRaw, List.cons_append, List.nil_append, List.map_cons, decGo, hg, cond_false] at this ⊢
      simp
      exact this
theorem decGo_raw (l : List UInt8) : ∀ s, decGo s (sameRaw l true) = l := by
  induction l with
  | nil => intro s; rfl
  | cons c r ih => intro s; have := ih (isCr c true); simp only [sameRaw, List.map_cons, decGo] at this ⊢; simp [isGone, this]
theorem dec_same (l : List UInt8) (raw : Bool) : dec l (List.replicate l.length raw) = decGo false (sameRaw l raw) := by
  rw [← dTo_all]; unfold dTo; rw [List.take_length]
theorem dec_encs (raw : Bool) (ps : List (List UInt8)) : dec (ps.flatMap (enc raw)) (List.replicate (ps.flatMap (enc raw)).length raw) = ps.flatten := by
  rw [dec_same]
  cases raw
  · have key : ∀ ps : List (List UInt8), decGo false (sameRaw (ps.flatMap (enc false)) false) = ps.flatten := by
      intro ps
      induction ps with
      | nil => rfl
      | cons p ps ih =>
        have e : sameRaw ((p :: ps).flatMap (enc false)) false = sameRaw (enc1 p) false ++ sameRaw (ps.flatMap (enc false)) false := by
          simp [sameRaw, enc]
        rw [e, decGo_enc1 p false _ (by simp), ih]; rfl
    exact key ps
  · rw [decGo_raw]
    induction ps with
    | nil => rfl
    | cons p ps ih => simp [enc]; simpa [enc] using ih

/-- Behind each 13 there is a 0 or a 10. -/
def CrOk (l : List UInt8) : Prop := ∀ i : Nat, l[i]? = some 13 → l[i + 1]? = some 0 ∨ l[i + 1]? = some 10
theorem CrOk.append {a b : List UInt8} (ha : CrOk a) (hb : CrOk b) : CrOk (a ++ b) := by
  intro i h
  by_cases hi : i < a.length
  · rw [List.getElem?_append_left hi] at h
    have := ha i h
    have hi1 : i + 1 < a.length := by
      rcases this with h | h <;> exact (List.getElem?_eq_some_iff.1 h).1
    rw [List.getElem?_append_left hi1]; exact this
  · rw [List.getElem?_append_right (by omega)] at h
    have := hb _ h
    rw [List.getElem?_append_right (by omega), show i + 1 - a.length = i - a.length + 1 by omega]
    exact this
theorem CrOk_enc1 (p : List UInt8) : CrOk (enc1 p) := by
  induction p with
  | nil => intro i h; simp [enc1] at h
  | cons c r ih =>
    unfold enc1
    by_cases h1 : c = 13 ∧ r.head? ≠ some 10
    · rw [if_pos h1]
      refine CrOk.append ?_ ih
      intro i h
      match i, h with
      | 0, _ => left; rfl
      | 1, h => simp at h
    · rw [if_neg h1]
      intro i h
      cases i with
      | zero =>
        simp at h
        subst h
        have h2 : r.head? = some 10 := by
          by_cases h3 : r.head? = some 10
          · exact h3
          · exact absurd ⟨rfl, h3⟩ h1
        right
        cases r with
        | nil => simp at h2
        | cons d r => simp at h2; subst h2; simp [enc1]
      | succ i => exact ih i (by simpa using h)
theorem CrOk_encs (ps : List (List UInt8)) : CrOk (ps.flatMap (enc false)) := by
  induction ps with
  | nil => intro i h; simp at h
  | cons p ps ih => simp only [List.flatMap_cons]; exact CrOk.append (by simpa [enc] using CrOk_enc1 p) ih

set_option maxHeartbeats 2000000 in
theorem lawBack (ps : List (List UInt8)) (raw : Bool) (A : Option Addr) (n c : Nat) (w : World) (hr : RdL IsBytes w A n ps) :
    Calls Try.prog 4 #[.slice A n c, .bool raw] w fun e w' => e = .returned (.bool true) ∧ Below w.heap.size w w' := by
  by_cases hbig : 20 < n
  · go_enter Try.func4, Try.ntmps4
    go_wp2_with (go_at_call 6; refine (alive8 _).mono ?_; rintro e w1 ⟨rfl, hb1⟩)
    go_ret
    exact ⟨rfl, hb1⟩
  · have hl := hr.len
    have HR := Lib.hid hr
    have HL := Lib.hid hl
    clear hr hl
    go_enter Try.func4, Try.ntmps4
    go_wp2_with (go_at_call 6; refine (alive8 _).mono ?_; rintro e w1 ⟨rfl, hb1⟩; have hs1 := hb1.size)
    go_loopw [5, 6, 20] (fun v u i wr => ∃ k : Nat, k ≤ n ∧ i = .int .i64 k ∧ Below w.heap.size w wr ∧ w.heap.size ≤ wr.heap.size ∧
        wr.ownsRow w.heap.size 5 1 v (ps.take k).flatten.length (bytesV (ps.take k).flatten) ∧ wr.ownsRow w.heap.size 5 1 u ((ps.take k).flatMap (enc raw)).length (bytesV ((ps.take k).flatMap (enc raw))) ∧ Apart u v ∧
        (ps.take k).flatten.length ≤ 100 * k ∧ ((ps.take k).flatMap (enc raw)).length ≤ 200 * k)
      (fun _ _ i _ => n - (intOf i).toNat)
    case atStart =>
      have h1 := own_mono (own_empty w1 5 1) hs1
      have h2 := own_mono (own_empty (w1.alloc (.cells #[] 5)) 5 1) (base' := w.heap.size) (by simp; omega)
      simp only [World.size_alloc] at h2
      refine ⟨0, Nat.zero_le _, rfl, (hb1.alloc hs1 _).alloc (by simp; omega) _, by simp; omega, own_alloc h1 _, h2, ?_, by simp, by simp⟩
      right; simp [Value.ownBlock]
    case round =>
      obtain ⟨k, hk, rfl, hb, hs, hown, hown', hap, hz1, hz2⟩ := hrel
      by_cases hlt : k < n
      · have hkl : k < ps.length := by have := HL.out; omega
        obtain ⟨b, o, x, rfl, HC, hx⟩ := HR.out.at_ hkl
        have hc := HC.out wr hb
        obtain ⟨A', m, d, rfl, hmd, hdm, hrd⟩ := hx
        have hlen := hrd.len_bytes
        by_cases hm : 100 < m
        · clear hlen
          go_wp2
          go_ret
          exact ⟨rfl, hb⟩
        · have HLen := Lib.hid hlen
          have HRD := Lib.hid hrd
          clear hlen hrd
          have hel := enc_len raw ps[k]
          have e1 : (ps.take (k + 1)).flatten = (ps.take k).flatten ++ ps[k] := by rw [List.take_succ_eq_append_getElem hkl, List.flatten_append, List.flatten_singleton]
          have e2 : (ps.take (k + 1)).flatMap (enc raw) = (ps.take k).flatMap (enc raw) ++ enc raw ps[k] := by rw [List.take_succ_eq_append_getElem hkl, List.flatMap_append, List.flatMap_singleton]
          have E1 := Lib.hid e1
          have E2 := Lib.hid e2
          clear e1 e2
          have hel2 : (enc raw ps[k]).length ≤ 200 := by have := HLen.out; omega
          go_wp2_with (first
            | (at_builtin; refine wpList_app Try.elemB rfl (.tmp 27) (.tmp 28) rfl (v := u5) rfl hown hs rfl (HRD.out.keep hb) (one_bytesV _) (by omega) (by unfold maxLen; omega) ?_; intro v1 w2 hown1 hg1 hk1; obtain ⟨hown1', hap1⟩ := hk1 _ _ _ _ _ hown' hap; have hb2 := hg1.below hb (Nat.le_refl _) hs; have hs2 := hb2.size; have HRD2 := Lib.hid (HRD.out.keep hb2))
            | (go_at_call 8; refine (nvtEncode ps[k] raw _ _ _ _ (by omega) HRD2.out).mono ?_; rintro e w3 ⟨v3, rfl, hown3, hb3⟩; obtain ⟨A3, c3, rfl, _, _, hrd3⟩ := own_rd hown3; have hown1x := own_ext hown1 hb3; have hown1y := own_ext hown1' hb3; have hb23 : Below w.heap.size w w3 := hb2.trans (hb3.mono hs2); have hs3 := hb23.size; have HRD3 := Lib.hid hrd3; clear hrd3 hown3)
            | (at_builtin; refine wpList_app Try.elemB rfl (.tmp 30) (.tmp 33) rfl (v := u6) rfl hown1y hs3 rfl HRD3.out (one_bytesV _) (by omega) (by unfold maxLen; omega) ?_; intro v4 w4 hown4 hg4 hk4; obtain ⟨hown4', hap4⟩ := hk4 _ _ _ _ _ hown1x hap1.symm; have hb4 := hg4.below hb23 (Nat.le_refl _) hs3; have hs4 := hb4.size))
          go_roundw
          case rel => 
            refine ⟨k + 1, by omega, by go_num, hb4, hs4, ?_, ?_, hap4.symm, ?_, ?_⟩
            · rw [E1.out]
              have h5 := HLen.out
              rw [List.length_append, h5]; simpa [bytesV] using hown4'
            · rw [E2.out]; simpa [bytesV] using hown4
            · rw [E1.out, List.length_append]; have := HLen.out; omega
            · rw [E2.out, List.length_append]; omega
          case measure => simp [intOf]; omega
      · obtain rfl : k = n := by omega
        have hk20 : ps.length ≤ 20 := by have := HL.out; omega
        rw [← HL.out, List.take_length] at hown hown' hz1 hz2
        have hcr := CrOk_encs ps
        have hdec := dec_encs raw ps
        obtain ⟨F, hF⟩ : ∃ F, F = ps.flatten := ⟨_, rfl⟩
        obtain ⟨S, hS⟩ : ∃ S, S = ps.flatMap (enc raw) := ⟨_, rfl⟩
        rw [← hF] at hown hz1 hdec
        rw [← hS] at hown' hz2 hdec
        have HCR : Hid (raw = false → CrOk S) := Lib.hid (by intro h; rw [hS, h]; exact hcr)
        have HDEC := Lib.hid hdec
        obtain ⟨A', c', rfl, _, _, hrd⟩ := own_rd hown'
        obtain ⟨A2, c2, rfl, _, _, hrd2⟩ := own_rd hown
        have HRD := Lib.hid hrd
        have HO := Lib.hid hrd2
        clear hown hown' hrd hrd2 hcr hdec hF hS hap HR
        go_wp2
        go_loop [38] (fun i => ∃ j : Nat, j ≤ S.length ∧ i = .int .i64 j) (fun i => S.length - (intOf i).toNat)
        case atStart => exact ⟨0, Nat.zero_le _, rfl⟩
        case round =>
          obtain ⟨j, hj, rfl⟩ := hrel
          by_cases hlt2 : j < S.length
          · obtain ⟨b, o, rfl, HC⟩ := HRD.out.bytes (by omega)
            have hc1 := HC.out wr (Below.refl _ _) j hlt2
            cases hraw : raw
            · rw [hraw] at HCR
              have HH := HCR.out rfl j
              by_cases h13 : S[j] = 13
              · have h2 := HH (by rw [List.getElem?_eq_getElem hlt2, h13])
                have hj1 : j + 1 < S.length := by rcases h2 with h | h <;> exact (List.getElem?_eq_some_iff.1 h).1
                have hc2 := HC.out wr (Below.refl _ _) (j + 1) hj1
                rw [List.getElem?_eq_getElem hj1] at h2
                have H2 := Lib.hid h2
                rw [h13] at hc1
                clear h2 HH
                have hge : decide ((j : Int) ≥ (S.length : Int) - 1) = false := by simp; omega
                rcases H2.out with h | h <;> (rw [Option.some.inj h] at hc2)
                all_goals
                  clear H2 h h13
                  go_wp2
                  go_round
                  case rel => exact ⟨j + 1, by omega, by go_num⟩
                  case measure => simp [intOf]; omega
              · have h13b : (S[j] == 13) = false := by simpa using h13
                clear h13 HH
                go_wp2
                go_round
                case rel => exact ⟨j + 1, by omega, by go_num⟩
                case measure => simp [intOf]; omega
            · go_wp2
              go_round
              case rel => exact ⟨j + 1, by omega, by go_num⟩
              case measure => simp [intOf]; omega
          · obtain rfl : j = S.length := by omega
            go_wp2_with fail
            -- DAG NvtBack20
            refine wp_region_dag (E := Ext) (w0 := wr) (Φ := fun i v w => match i with | 0 => (v = .slice A' S.length c') | 1 => (v = .bool raw) | 2 => (∃ A c, v = .slice A F.length c ∧ Rd w 1 A F.length (bytesV F)) | 3 => (v = .string ⟨F.toArray⟩) | 4 => (v = .slice A2 F.length c2) | 5 => (v = .string ⟨F.toArray⟩) | 6 => (v = .bool true) | 7 => (v = .bool true) | _ => True) (show Try.prog.follows .mixedOrders = true from Checked.mixed Try.checked) 80 rfl (by decide +kernel) ?_ ((Below.refl _ _).drew) ?_ ⟨?_, ?_, ?_, ?_, ?_, ?_, ?_, ?_, trivial⟩ ?_
            · intro i v w w' h hE
              match i, h with
              | 0, h => exact h
              | 1, h => exact h
              | 2, h => exact (by obtain ⟨A, c, h1, h2⟩ := h; exact ⟨A, c, h1, h2.keep hE⟩)
              | 3, h => exact h
              | 4, h => exact h
              | 5, h => exact h
              | 6, h => exact h
              | 7, h => exact h
              | _ + 8, _ => trivial
            · exact fun w w' h h' => h.trans h'
            · -- 0: t73 := move t6 
              intro a w hE hsz hdf h
              have e6 : a.tmps[6]? = some (.slice A' S.length c') := by obtain ⟨v, h1, h2⟩ := h 6 (by decide +kernel); exact h1.trans (h2.symm.trans rfl)
              clear h hsz hdf
              go_wp2
              exact ⟨_, rfl, rfl, Ext.refl _⟩
            · -- 1: t74 := move t1 
              intro a w hE hsz hdf h
              have e1 : a.tmps[1]? = some (.bool raw) := by obtain ⟨v, h1, h2⟩ := h 1 (by decide +kernel); exact h1.trans (h2.symm.trans rfl)
              clear h hsz hdf
              go_wp2
              exact ⟨_, rfl, rfl, Ext.refl _⟩
            · -- 2: t75 := call { value (Operand.func 9), args := #[t73, t74], argTypes := #[22, 4] } 
              intro a w hE hsz hdf h
              have e73 : a.tmps[73]? = some (.slice A' S.length c') := by obtain ⟨v, h1, h2⟩ := h 73 (by decide +kernel); rw [h1]; exact congrArg some h2
              have e74 : a.tmps[74]? = some (.bool raw) := by obtain ⟨v, h1, h2⟩ := h 74 (by decide +kernel); rw [h1]; exact congrArg some h2
              clear h hsz hdf
              go_wp2_with ((go_at_call 9; refine (nvtDecode S raw _ _ _ _ (by omega) (HRD.out.keep hE)).mono ?_; rintro e w3 ⟨v3, rfl, hown3, hb3⟩; rw [HDEC.out] at hown3; obtain ⟨A3, c3, rfl, _, _, hrd3⟩ := own_rd hown3; have HRD3 := Lib.hid hrd3; clear hrd3 hown3))
              exact ⟨_, rfl, ⟨_, _, rfl, HRD3.out⟩, hb3⟩
            · -- 3: t76 := convert 22 9 t75 
              intro a w hE hsz hdf h
              obtain ⟨v75, e75, s75⟩ : ∃ v, a.tmps[75]? = some v ∧ (∃ A c, v = .slice A F.length c ∧ Rd w 1 A F.length (bytesV F)) := h 75 (by decide +kernel)
              clear h hsz hdf
              obtain ⟨A3, c3, rfl, hrd3⟩ := s75; have hcx := conv_str (c := c3) Try.underlying22 Try.underlying5 Try.underlying9 hrd3
              go_wp2
              exact ⟨_, rfl, rfl, Ext.refl _⟩
            · -- 4: t77 := move t5 
              intro a w hE hsz hdf h
              have e5 : a.tmps[5]? = some (.slice A2 F.length c2) := by obtain ⟨v, h1, h2⟩ := h 5 (by decide +kernel); exact h1.trans (h2.symm.trans rfl)
              clear h hsz hdf
              go_wp2
              exact ⟨_, rfl, rfl, Ext.refl _⟩
            · -- 5: t78 := convert 22 9 t77 
              intro a w hE hsz hdf h
              have e77 : a.tmps[77]? = some (.slice A2 F.length c2) := by obtain ⟨v, h1, h2⟩ := h 77 (by decide +kernel); rw [h1]; exact congrArg some h2
              clear h hsz hdf
              have hcy := conv_str (c := c2) Try.underlying22 Try.underlying5 Try.underlying9 (HO.out.keep hE)
              go_wp2
              exact ⟨_, rfl, rfl, Ext.refl _⟩
            · -- 6: t79 := binOp BinOp.eql 9 t76 t78 9 
              intro a w hE hsz hdf h
              have e76 : a.tmps[76]? = some (.string ⟨F.toArray⟩) := by obtain ⟨v, h1, h2⟩ := h 76 (by decide +kernel); rw [h1]; exact congrArg some h2
              have e78 : a.tmps[78]? = some (.string ⟨F.toArray⟩) := by obtain ⟨v, h1, h2⟩ := h 78 (by decide +kernel); rw [h1]; exact congrArg some h2
              clear h hsz hdf
              go_wp2
              exact ⟨_, rfl, rfl, Ext.refl _⟩
            · -- 7: t4 := assign t79 
              intro a w hE hsz hdf h
              have e79 : a.tmps[79]? = some (.bool true) := by obtain ⟨v, h1, h2⟩ := h 79 (by decide +kernel); rw [h1]; exact congrArg some h2
              clear h hsz hdf
              go_wp2
              exact ⟨_, rfl, rfl, Ext.refl _⟩
            · intro a w5 hE hsz hdf h hrest
              have e4 : a.tmps[4]? = some (.bool true) := by obtain ⟨v, h1, h2⟩ := h 7 _ rfl; rw [h2 4 rfl]; exact congrArg some h1
              clear h hrest hsz
              have HDF := Lib.hid hdf
              clear hdf
              go_wp2
              refine bodyPost_ret (results_tmp rfl _ _ _) HDF.out ⟨by simp [e4], ?_⟩
              exact hb.trans (hE.mono hs)
            -- GAD NvtBack20
end Go.Proofs.Ytcdmjkhkgfegjaa
