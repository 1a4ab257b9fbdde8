/- layer 8: the walks of the program's functions and of the references. -/
import Derived.Test.YtcdmjkhkgfegjaaNvt1
import Derived.Outline
namespace Go.Proofs.Ytcdmjkhkgfegjaa
open Go.RowKit

theorem Try.elemB : Elem Try.prog 22 5 (.int .u8 0) 1 1 := ⟨Try.underlying22, by kernel_rfl, rfl, by omega⟩

set_option maxHeartbeats 400000 in
theorem refEncode (l : List UInt8) : ∀ (raw : Bool) (w : World), l.length ≤ 1000000 → 
    Calls Try.prog 10 #[.string ⟨l.toArray⟩, .bool raw] w fun e w' => e = .returned (.string ⟨(enc raw l).toArray⟩) ∧ w = w' := by
  induction l with
  | nil =>
    intro raw w hl
    go_enter Try.func10, Try.ntmps10
    go_wp2
    go_ret
    exact ⟨by cases raw <;> rfl, rfl⟩
  | cons c r ih =>
    intro raw w hl
    cases raw
    case true => 
      go_enter Try.func10, Try.ntmps10
      go_wp2
      go_ret
      exact ⟨by simp [enc], rfl⟩
    case false =>
      simp at hl
      have hz : ((r.length : Int) + 1 == 0) = false := by simp; omega
      have hlen := enc_len false r
      go_enter Try.func10, Try.ntmps10
      go_wp2_with (go_at_call 10; refine (ih false _ (by omega)).mono ?_; rintro e w' ⟨rfl, rfl⟩)
      all_goals go_ret
      all_goals refine ⟨?_, rfl⟩
      all_goals (cases r <;> simp_all [enc, enc1])
      all_goals omega

set_option maxHeartbeats 400000 in
theorem nvtNext (b : Nat) (w : World) (c : UInt8) (raw beh : Bool) (hc : w.cell? ⟨b, 0, none⟩ = some (.bool beh)) (hf : w.frozen? ⟨b, 0, none⟩ = false) :
    Calls Try.prog 14 #[.pointer (some ⟨b, 0, none⟩), .int .u8 c.toNat, .bool raw] w fun e w' => e = .returned (.bool !(isGone c raw beh)) ∧ w.setCell ⟨b, 0, none⟩ (.bool (isCr c raw)) = w' := by
  cases raw <;> by_cases h0 : c = 0 <;> by_cases h1 : c = 13 <;> (try (subst h0; exact absurd h1 (by decide)))
  all_goals
    go_enter Try.func14, Try.ntmps14
    go_wp2
    go_ret
    simp [h0, h1, isGone, isCr]


/-- Is byte i left out? -/
def goneAt (l : List UInt8) (rs : List Bool) (i : Nat) : Bool := isGone (l.getD i 0) (rs.getD i false) (decSt false ((l.zip rs).take i))

set_option maxHeartbeats 400000 in
theorem refGone (l : List UInt8) (rs : List Bool) (A : Option Addr) (n c : Nat) (i : Nat) (w : World) (hl : l.length ≤ 1000000) (hi : i < l.length) (hn : l.length ≤ n)
    (hr : Rd w 1 A n (boolsV rs)) :
    Calls Try.prog 16 #[.string ⟨l.toArray⟩, .slice A n c, .int .i64 i] w fun e w' => e = .returned (.bool (goneAt l rs i)) ∧ w = w' := by
  have hrl : rs.length = n := by simpa [boolsV] using hr.1
  obtain ⟨b, o, rfl, hb, hcell⟩ := hr.2 (by simp [boolsV]; omega)
  have hci : w.cell? ⟨b, o + i, none⟩ = some (.bool (rs[i]'(by omega))) := hcell i _ (by simp [boolsV])
  cases i with
  | zero =>
    go_enter Try.func16, Try.ntmps16
    go_wp2
    go_ret
    exact ⟨by simp [goneAt, isGone, decSt], rfl⟩
  | succ i =>
    have hci' : w.cell? ⟨b, o + i, none⟩ = some (.bool (rs[i]'(by omega))) := hcell i _ (by simp [boolsV])
    have e : goneAt l rs (i + 1) = (l[i + 1] == 0 && !rs[i + 1] && (l[i] == 13 && !rs[i])) := by
      have h1 : (l.zip rs).take (i + 1) = (l.zip rs).take i ++ [(l[i], rs[i])] := by
        rw [List.take_succ_eq_append_getElem (by simp; omega)]; simp
      unfold goneAt isGone
      rw [h1, decSt_snoc]
      simp [isCr, hi, List.getD, show i + 1 < rs.length by omega]
    have E := Lib.hid e
    clear e
    go_enter Try.func16, Try.ntmps16
    go_wp2
    all_goals (go_ret; rw [E.out]; simp [*])

def decTo (l : List UInt8) (rs : List Bool) (k : Nat) : List UInt8 := decGo false ((l.zip rs).take k)
theorem decTo_len (l : List UInt8) (rs : List Bool) (k : Nat) : (decTo l rs k).length ≤ l.length := by
  have := decGo_len false ((l.zip rs).take k)
  simp at this; unfold decTo; omega
theorem decTo_succ (l : List UInt8) (rs : List Bool) (k : Nat) (hk : k < l.length) (hn : l.length ≤ rs.length) :
    decTo l rs (k + 1) = decTo l rs k ++ (bif goneAt l rs k then [] else [l[k]]) := by
  have h1 : (l.zip rs).take (k + 1) = (l.zip rs).take k ++ [(l[k], rs[k])] := by
    rw [List.take_succ_eq_append_getElem (by simp; omega)]; simp
  unfold decTo goneAt
  rw [h1, decGo_snoc]
  simp [List.getD, hk, show k < rs.length by omega]
def dec (l : List UInt8) (rs : List Bool) : List UInt8 := decGo false (l.zip rs)
theorem decTo_all (l : List UInt8) (rs : List Bool) : decTo l rs l.length = dec l rs := by
  unfold decTo dec; rw [List.take_of_length_le (by simp; omega)]

set_option maxHeartbeats 400000 in
theorem refDecode (l : List UInt8) (rs : List Bool) (A : Option Addr) (n c : Nat) (w : World) (hl : l.length ≤ 1000000) (hn : l.length ≤ n)
    (hr : Rd w 1 A n (boolsV rs)) :
    Calls Try.prog 11 #[.string ⟨l.toArray⟩, .slice A n c] w fun e w' => e = .returned (.string ⟨(dec l rs).toArray⟩) ∧ Below w.heap.size w w' := by
  have hrl : rs.length = n := by simpa [boolsV] using hr.1
  go_enter Try.func11, Try.ntmps11
  go_wp2
  go_loopw [5, 6] (fun v i wr => ∃ k : Nat, k ≤ l.length ∧ i = .int .i64 k ∧ wr.ownsRow w.heap.size 5 1 v (decTo l rs k).length (bytesV (decTo l rs k)) ∧ Below w.heap.size w wr)
    (fun _ i _ => l.length - (intOf i).toNat)
  case atStart => exact ⟨0, Nat.zero_le _, rfl, own_empty _ _ _, (Below.refl _ _).alloc (Nat.le_refl _) _⟩
  case round =>
    obtain ⟨k, hk, rfl, hown, hb⟩ := hrel
    by_cases hlt : k < l.length
    · have hD := decTo_len l rs k
      have hs := hb.size
      have hrw := hr.keep hb
      cases hgone : goneAt l rs k
      all_goals
        have DS := Lib.hid (decTo_succ l rs k hlt (by omega))
        go_wp2_with (first | (go_at_call 16; refine (refGone l rs A n c k wr hl hlt hn hrw).mono ?_; rintro e w' ⟨rfl, rfl⟩) | (at_builtin; refine wpList_app Try.elemB rfl (.tmp 19) (.tmp 23) rfl (v := u5) rfl (hown.alloc _) (by simp; omega) rfl (rd_one _ _ _) (one_one rfl) (by omega) (by unfold maxLen; omega) ?_; intro v' w1 hown1 hg1 hk1))
      · go_roundw
        case rel => 
          refine ⟨k + 1, by omega, by go_num, ?_, hg1.below (hb.alloc hs _) (Nat.le_refl _) (by simp; omega)⟩
          rw [DS.out, hgone]
          simpa [bytesV, U8] using hown1
        case measure => simp [intOf]; omega
      · go_roundw
        case rel => 
          refine ⟨k + 1, by omega, by go_num, ?_, hb⟩
          rw [DS.out, hgone]
          simpa using hown
        case measure => simp [intOf]; omega
    · obtain rfl : k = l.length := by omega
      obtain ⟨A', c', rfl, _, _, hrd⟩ := own_rd hown
      have hcv := conv_str (c := c') Try.underlying22 Try.underlying5 Try.underlying9 hrd
      have DA := Lib.hid (decTo_all l rs)
      go_wp2
      go_ret
      exact ⟨by rw [← DA.out]; rfl, hb⟩

end Go.Proofs.Ytcdmjkhkgfegjaa
