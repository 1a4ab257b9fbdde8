/- The chapter's example of the ring. -/
import Derived.Test.YtbipkbpcjkgohaaDoorRing3
import Derived.Lib.SlBytesConst
namespace Go.Proofs.YtbipkbpcjkgohaaDoor
open Go Go.RowKit

theorem Ext.alloc1 (w : World) (o : Obj) : Ext w (w.alloc o) := (Below.refl _ _).alloc (Nat.le_refl _) o
theorem rd_newB (w : World) (l : List UInt8) (e : TypeId) (z : Nat × Nat) : Rd (w.alloc (.cells (bytesV l).toArray e z)) 1 (some ⟨w.heap.size, 0, none⟩) l.length (bytesV l) := by
  refine ⟨by simp [bytesV], fun _ => ⟨_, _, rfl, by simp, fun j u hu => ?_⟩⟩
  rw [Nat.zero_add, ← hu]
  show (match (w.alloc (.cells (bytesV l).toArray e z)).heap[w.heap.size]? with | some (.cells c elem frozen) => (c[j]? : Option Value) | _ => none) = _
  rw [heap_alloc_new]
  simp
/-- The bytes of a constant text, as the program lays them. -/
theorem lit_bytes {P : Program} {t e : TypeId} (ht : P.underlying t = some (.slice e)) (he : P.underlying e = some (.int .u8)) (w : World) (l : List UInt8) (C : Array Value) (hC : C = (bytesV l).toArray) (n c k : Nat) (hn : n = l.length) (hk : k = l.length) :
    (convert t t (.slice (some ⟨w.heap.size, 0, none⟩) n c)).run P (w.alloc (.cells C e)) = .ok (.slice (some ⟨w.heap.size, 0, none⟩) n c) (w.alloc (.cells C e (k, k + 1))) ∧
    Rd (w.alloc (.cells C e (k, k + 1))) 1 (some ⟨w.heap.size, 0, none⟩) n (bytesV l) := by
  have hs : C.size = k := by rw [hC, hk]; simp [bytesV]
  refine ⟨by rw [← hs]; exact Lib.run_convert_bytes_const w t e C n c ht he, ?_⟩
  subst hC hn
  exact rd_newB w l e _

set_option maxHeartbeats 1000000 in
set_option maxRecDepth 20000 in
theorem ringAlive (w : World) :
    Calls Tryd.prog 14 #[] w fun e w' => e = .returned (.bool true) ∧ Ext w w' := by
  go_enter Tryd.func14, Tryd.ntmps14
  go_wp2_with (first
    | (go_at_call 22; refine (ringLen _ hq5).mono ?_; rintro e w6 ⟨rfl, rfl⟩)
    | (go_at_call 19; refine (ringTake _ 9 2 hq4 (by simp)).mono ?_; rintro e w5 ⟨v5, rfl, hg5, hq5, hc5⟩; obtain ⟨A5, rfl, hrd5⟩ := hg5.rd;
       simp only [List.take_succ_cons, List.take_zero, List.drop_succ_cons, List.drop_zero] at hrd5 hq5;
       have hcv5 := conv_str (P := Tryd.prog) (c := 2) Tryd.underlying31 Tryd.underlying5 Tryd.underlying9 (show Rd w5 1 A5 2 (bytesV [99, 101]) from hrd5); clear hg5)
    | (go_at_call 17; refine (ringPut (l := [101]) _ 1 (hq3.keep (Ext.alloc1 _ _)) hr3 (by omega) (fun _ b o v e => by cases e; have := hq3.sl.lt; omega) (by simp) (by simp) (by simp)).mono ?_; rintro e w4 ⟨rfl, ⟨s4, hq4⟩, hc4⟩; clear hr3 hl3'; simp only [List.cons_append, List.nil_append, List.take_succ_cons, List.take_zero] at hq4)
    | (go_at_call 19; refine (ringTake _ 2 2 hq2 (by simp)).mono ?_; rintro e w3 ⟨v3, rfl, hg3, hq3, hc3⟩; obtain ⟨A3, rfl, hrd3⟩ := hg3.rd;
       simp only [List.take_succ_cons, List.take_zero, List.drop_succ_cons, List.drop_zero] at hrd3 hq3;
       have hcv3 := conv_str (P := Tryd.prog) (c := 2) Tryd.underlying31 Tryd.underlying5 Tryd.underlying9 (show Rd w3 1 A3 2 (bytesV [97, 98]) from hrd3); clear hg3;
       have ⟨hl3', hr3⟩ := lit_bytes Tryd.underlying31 Tryd.underlying5 w3 [101] #[.int .u8 101] rfl 1 1 1 rfl rfl)
    | (go_at_call 17; refine (ringPut (l := [97, 98, 99, 100]) _ 3 (hq1.keep (Ext.alloc1 _ _)) hr1 (by omega) (fun _ b o v e => by cases e; omega) (by simp) (by simp) (by simp)).mono ?_; rintro e w2 ⟨rfl, ⟨s2, hq2⟩, hc2⟩; clear hr1 hl1'; simp only [List.nil_append, List.take_succ_cons, List.take_zero] at hq2)
    | (go_at_call 16; refine (ringNew 3 _ (by omega) (by omega)).mono ?_; rintro e w1 ⟨p, g, rfl, hq1, hb1, hp1, hg1⟩;
       have hl1 := hq1.sl.lt; have ⟨hl1', hr1⟩ := lit_bytes Tryd.underlying31 Tryd.underlying5 w1 [97, 98, 99, 100] #[.int .u8 97, .int .u8 98, .int .u8 99, .int .u8 100] rfl 4 4 4 rfl rfl))
  go_ret
  refine ⟨rfl, ?_⟩
  have s1 := hb1.size
  have b2 : Below w.heap.size w w2 := hc2.below (hb1.alloc s1 _) (by simp; omega) (by simp; exact ⟨hp1, hg1⟩)
  have b3 : Below w.heap.size w w3 := hc3.below b2 b2.size (by simp; exact hp1)
  have s3 := b3.size
  have b4 : Below w.heap.size w w4 := hc4.below (b3.alloc s3 _) (by simp; omega) (by simp; exact ⟨hp1, hg1⟩)
  have b5 : Below w.heap.size w w5 := hc5.below b4 b4.size (by simp; exact hp1)
  exact b5.drew
end Go.Proofs.YtbipkbpcjkgohaaDoor
