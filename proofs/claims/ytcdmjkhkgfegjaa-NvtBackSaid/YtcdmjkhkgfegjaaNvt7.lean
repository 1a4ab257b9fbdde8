/- layer 8: the walk of NvtNext. -/
import Derived.Test.YtcdmjkhkgfegjaaNvt6
namespace Go.Proofs.Ytcdmjkhkgfegjaa
open Go.RowKit

def stTo (l : List UInt8) (rs : List Bool) (k : Nat) : Bool := decSt false ((l.zip rs).take k)
theorem stTo_succ (l : List UInt8) (rs : List Bool) (k : Nat) (hk : k < l.length) (hk' : k < rs.length) : stTo l rs (k + 1) = isCr l[k] rs[k] := by
  have h1 : (l.zip rs).take (k + 1) = (l.zip rs).take k ++ [(l[k], rs[k])] := by
    rw [List.take_succ_eq_append_getElem (by simp; omega)]; simp
  unfold stTo; rw [h1, decSt_snoc]
theorem decTo_succ2 (l : List UInt8) (rs : List Bool) (k : Nat) (hk : k < l.length) (hk' : k < rs.length) : decTo l rs (k + 1) = decTo l rs k ++ (bif isGone l[k] rs[k] (stTo l rs k) then [] else [l[k]]) := by
  have h1 : (l.zip rs).take (k + 1) = (l.zip rs).take k ++ [(l[k], rs[k])] := by
    rw [List.take_succ_eq_append_getElem (by simp; omega)]; simp
  unfold decTo stTo
  rw [h1, decGo_snoc]

/-- One byte of a slice of bytes. -/
theorem Rd.byte {w : World} {b o n : Nat} {l : List UInt8} (hr : Rd w 1 (some ⟨b, o, none⟩) n (bytesV l)) {k : Nat} (hk : k < l.length) : Rd w 1 (some ⟨b, o + k, none⟩) 1 (bytesV [l[k]]) := by
  obtain ⟨b', o', e, hb, hc⟩ := hr.2 (by simp [bytesV]; omega)
  simp at e
  obtain ⟨rfl, rfl⟩ := e
  refine ⟨rfl, fun _ => ⟨b, o + k, rfl, hb, fun j u hu => ?_⟩⟩
  have hj : j = 0 := by have := (List.getElem?_eq_some_iff.1 hu).1; simpa [bytesV] using this
  subst hj
  simp [bytesV] at hu
  subst hu
  exact hc k _ (by simp [bytesV, hk])

theorem nvtNextW (b : Nat) (w w0 : World) (B : Nat) (c : UInt8) (raw beh : Bool) (hc : w.cell? ⟨b, 0, none⟩ = some (.bool beh)) (hf : w.frozen? ⟨b, 0, none⟩ = false) (hb : Below B w0 w) (hB : B ≤ b) :
    Calls Try.prog 14 #[.pointer (some ⟨b, 0, none⟩), .int .u8 c.toNat, .bool raw] w fun e w' => e = .returned (.bool !(isGone c raw beh)) ∧ w'.cell? ⟨b, 0, none⟩ = some (.bool (c == 13 && !raw)) ∧ w'.frozen? ⟨b, 0, none⟩ = false ∧ Below B w0 w' := by
  refine (nvtNext b w c raw beh hc hf).mono ?_
  rintro e w' ⟨rfl, rfl⟩
  exact ⟨rfl, World.cell?_setCell_same _ _ _ hc, by simpa using hf, hb.setCell hB _⟩

set_option maxHeartbeats 2000000 in
theorem lawNext (l : List UInt8) (rs : List Bool) (A B : Option Addr) (n c m d : Nat) (w : World) (hr : Rd w 1 A n (bytesV l)) (hnc : n ≤ c) (hs : Rd w 1 B m (boolsV rs)) :
    Calls Try.prog 5 #[.slice A n c, .slice B m d] w fun e w' => e = .returned (.bool true) ∧ Below w.heap.size w w' := by
  by_cases hbig : 500 < n ∨ m < n
  · by_cases h1 : 500 < n
    · clear hbig
      go_enter Try.func5, Try.ntmps5
      go_wp2_with (go_at_call 6; refine (alive8 _).mono ?_; rintro e w1 ⟨rfl, hb1⟩)
      go_ret
      exact ⟨rfl, hb1⟩
    · have h2 : m < n := by omega
      clear hbig
      go_enter Try.func5, Try.ntmps5
      go_wp2_with (go_at_call 6; refine (alive8 _).mono ?_; rintro e w1 ⟨rfl, hb1⟩)
      go_ret
      exact ⟨rfl, hb1⟩
  · have h1 : ¬ 500 < n := by omega
    have h2 : ¬ m < n := by omega
    have hl := hr.len_bytes
    have hm := hs.len_bools
    have HR := Lib.hid hr
    have HS := Lib.hid hs
    have HL := Lib.hid hl
    have HM := Lib.hid hm
    clear hr hs hl hm hbig
    go_enter Try.func5, Try.ntmps5
    go_wp2_with (go_at_call 6; refine (alive8 _).mono ?_; rintro e w1 ⟨rfl, hb1⟩; have hs1 := hb1.size)
    go_loopw [6, 25] (fun v i wr => ∃ k : Nat, k ≤ n ∧ i = .int .i64 k ∧ v = .string ⟨(decTo l rs k).toArray⟩ ∧ Below w.heap.size w wr ∧
        wr.cell? ⟨w1.heap.size, 0, none⟩ = some (.bool (stTo l rs k)) ∧ wr.frozen? ⟨w1.heap.size, 0, none⟩ = false)
      (fun _ i _ => n - (intOf i).toNat)
    case atStart =>
      have hB := Blk.new w1 36 #[.bool false]
      exact ⟨0, Nat.zero_le _, rfl, rfl, hb1.alloc hs1 _, by simp [stTo, decSt], hB.frozen 0⟩
    case round =>
      obtain ⟨k, hk, rfl, rfl, hb, hcell, hfr⟩ := hrel
      by_cases hlt : k < n
      · have hkl : k < l.length := by have := HL.out; omega
        have hkr : k < rs.length := by have := HM.out; omega
        have hD := decTo_len l rs k
        have hl5 : l.length ≤ 500 := by have := HL.out; omega
        obtain ⟨b, o, rfl, HC⟩ := HR.out.bytes (by omega)
        obtain ⟨b', o', rfl, HC'⟩ := HS.out.bools (by omega)
        have hc1 := HC.out wr hb k hkl
        have hc2 := HC'.out wr hb k hkr
        have DS := Lib.hid (decTo_succ2 l rs k hkl hkr)
        have DT := Lib.hid (stTo_succ l rs k hkl hkr)
        have hk1 : (k : Int) + 1 ≤ c := by omega
        have hck : ¬ c = k := by omega
        obtain ⟨g, hg⟩ : ∃ g, g = isGone l[k] rs[k] (stTo l rs k) := ⟨_, rfl⟩
        have HG := Lib.hid hg
        clear hg
        have hgd : decTo l rs (k + 1) = decTo l rs k ++ (bif g then [] else [l[k]]) := by rw [DS.out, HG.out]
        have hstt : stTo l rs (k + 1) = (l[k] == 13 && !rs[k]) := by rw [DT.out]; rfl
        have HGD := Lib.hid hgd
        have HST := Lib.hid hstt
        clear hgd hstt
        cases h13 : (l[k] == 13)
        all_goals
          rw [h13] at HST
          go_wp2_with (first
            | (go_at_call 14; refine (nvtNextW _ wr w _ l[k] _ _ hcell hfr hb hs1).mono ?_; rintro e w2 ⟨rfl, hcell2, hfr2, hb2⟩; rw [← HG.out]; rw [h13] at hcell2; have hc3 := HC'.out w2 hb2 k hkr; have hcv := conv_str (c := c - k) Try.underlying22 Try.underlying5 Try.underlying9 ((HR.out.keep hb2).byte hkl))
            | (go_at_call 15; refine (nvtBehind _ w2 _ hcell2).mono ?_; rintro e w3 ⟨rfl, rfl⟩))
          all_goals
            go_roundw
            case rel =>
              refine ⟨k + 1, by omega, by go_num, ?_, hb2, by rw [HST.out]; exact hcell2, hfr2⟩
              have hgg := ‹(!g) = _›
              rw [HGD.out]
              cases g <;> simp_all
            case measure => simp [intOf]; omega
      · obtain rfl : k = n := by omega
        have hr := HR.out.keep hb
        have hsr := HS.out.keep hb
        have hcv := conv_str (c := c) Try.underlying22 Try.underlying5 Try.underlying9 hr
        have HDA : Hid (decTo l rs k = dec l rs) := Lib.hid (by rw [← decTo_all, HL.out])
        have HRR := Lib.hid hr
        clear hr
        go_wp2_with (go_at_call 11; refine (refDecode l rs _ _ _ _ (by have := HL.out; omega) (by have := HL.out; omega) hsr).mono ?_; rintro e w3 ⟨rfl, hb3⟩; rw [← HDA.out])
        go_ret
        exact ⟨rfl, hb.trans (hb3.mono hb.size)⟩
end Go.Proofs.Ytcdmjkhkgfegjaa
