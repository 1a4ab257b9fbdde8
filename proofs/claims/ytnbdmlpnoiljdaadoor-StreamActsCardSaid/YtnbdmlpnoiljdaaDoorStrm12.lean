/- The stream and the document's: what both answer to an act. -/
import Derived.Test.YtnbdmlpnoiljdaaDoorStrm11
import Derived.Test.YtnbdmlpnoiljdaaDoorStrm7
namespace Go.Proofs.YtnbdmlpnoiljdaaDoor
open Go Go.RowKit

theorem Blk.type {w : World} {g : Nat} {e e' : TypeId} {cs cs' : List Value} (h : Blk w g e cs) (h' : Blk w g e' cs') : e = e' := by
  unfold Blk at h h'
  rw [h] at h'
  simp at h'
  exact h'.2
theorem OwnO.typed {w : World} {base : Nat} {e : TypeId} {v : Value} {n : Nat} {xs : List Value} (h : OwnO w base e v n xs) {k : Nat} (hk : ob v = k + 1) : ∃ cs, Blk w k e cs := by
  rcases h.2 with ⟨rfl, _⟩ | ⟨g, o, cap, cur, rfl, _, hB, _⟩
  · simp [ob_nil] at hk
  · rw [ob_slice] at hk
    have : g = k := by simpa using hk
    subst this
    exact ⟨cur, hB⟩
/-- The blocks of a stream have other types than those of the document's. -/
theorem StrmAt.typed {w : World} {B : Nat} {m : Mem} {S : St} (h : StrmAt w B m S) {k : Nat} (hk : m.In k) : ∃ e cs, Blk w k e cs ∧ e ≠ 63 ∧ e ≠ 4 := by
  rcases hk with rfl | rfl | rfl | hk | hk | hk
  · exact ⟨_, _, h.blk, by decide, by decide⟩
  · exact ⟨_, _, h.ring.pt, by decide, by decide⟩
  · exact ⟨_, _, h.ring.sl, by decide, by decide⟩
  · obtain ⟨cs, hb⟩ := h.inn.typed hk; exact ⟨_, cs, hb, by decide, by decide⟩
  · obtain ⟨cs, hb⟩ := h.mks.typed hk; exact ⟨_, cs, hb, by decide, by decide⟩
  · obtain ⟨cs, hb⟩ := h.wire.typed hk; exact ⟨_, cs, hb, by decide, by decide⟩
theorem StrmAt.dis {w : World} {B B' mb R : Nat} {m : Mem} {S S' : St} {vk : Value} {C : List UInt8} {mk : List Bool} (h : StrmAt w B m S) (h' : MdAt w B' mb vk R C mk S') : ¬ m.In mb ∧ ∀ k, ob vk = k + 1 → ¬ m.In k := by
  refine ⟨fun hk => ?_, fun k hk hm => ?_⟩
  · obtain ⟨e, cs, hb, h1, _⟩ := h.typed hk
    exact h1 (hb.type h'.blk)
  · obtain ⟨e, cs, hb, _, h2⟩ := h.typed hm
    obtain ⟨cs', hb'⟩ := h'.own.typed hk
    exact h2 (hb.type hb')

/-- A stream that is there now, apart from the document's. -/
def StNow (w : World) (B a R mb : Nat) (S : St) : Prop := ∃ m, StrmAt w B m S ∧ m.a = a ∧ m.R = R ∧ ¬ m.In mb
theorem StNow.md {w w' : World} {B a R mb : Nat} {S : St} (h : StNow w B a R mb S) (hc : Chg [mb] w w') : StNow w' B a R mb S := by
  obtain ⟨m, h1, h2, h3, h4⟩ := h
  exact ⟨m, h1.chg hc (fun k hk hm => h4 (by simp at hm; rw [← hm]; exact hk)), h2, h3, h4⟩
theorem StNow.keep {w w' : World} {B a R mb : Nat} {S : St} (h : StNow w B a R mb S) (hc : Ext w w') : StNow w' B a R mb S := h.md (.of_ext hc)
/-- The document's that is there now, apart from these blocks. -/
def MdNow (w : World) (B mb R n : Nat) (Y : List Nat) (S : St) : Prop := ∃ vk C mk, MdAt w B mb vk R C mk S ∧ C.length ≤ n ∧ mb ∉ Y ∧ ∀ k, ob vk = k + 1 → k ∉ Y
theorem MdNow.st {w w' : World} {B mb R n : Nat} {Y : List Nat} {S : St} (h : MdNow w B mb R n Y S) (hc : Chg Y w w') : MdNow w' B mb R n Y S := by
  obtain ⟨vk, C, mk, h1, h2, h3, h4⟩ := h
  exact ⟨vk, C, mk, h1.chg hc h3 h4, h2, h3, h4⟩
theorem MdNow.keep {w w' : World} {B mb R n : Nat} {Y : List Nat} {S : St} (h : MdNow w B mb R n Y S) (hc : Ext w w') : MdNow w' B mb R n Y S := h.st (.of_ext hc)
theorem Turned.now {w w' : World} {B mb : Nat} {m : Mem} {S : St} (h : Turned w w' B m S) (hd : ¬ m.In mb) (hlt : mb < w.heap.size) : StNow w' B m.a m.R mb S ∧ Chg m.Y w w' := by
  obtain ⟨m', h1, h2, h3, h4, h5⟩ := h
  exact ⟨⟨m', h1, h2, h3, fun hk => by rcases h5 _ hk with h | h; exact hd h; omega⟩, h4⟩

/-- An error by the document's number. -/
def errN (E : Nat → Addr) (z : Nat) : Value := if z = 0 then .nilIface else errV E (z - 1)
theorem numN (E : Nat → Addr) (z : Nat) (w : World) (h : Errs w E) (hz : z ≤ 16) : Calls Tryd.prog 18 #[errN E z] w fun e w' => e = .returned (.int .i64 z) ∧ Ext w w' := by
  unfold errN
  by_cases h0 : z = 0
  · rw [if_pos h0]
    refine (numNil w).mono ?_
    rintro e w' ⟨rfl, rfl⟩
    exact ⟨by rw [h0]; rfl, Ext.refl _⟩
  · rw [if_neg h0]
    refine (numErr E (z - 1) w h (by omega)).mono ?_
    rintro e w' ⟨rfl, hx⟩
    exact ⟨by congr 2; omega, hx⟩
theorem delN_le (S : St) (nb : Nat) (r : Bool) : delN S nb r ≤ 16 := by unfold delN; split <;> (try split) <;> (try split) <;> omega
theorem sendN_le (R : Nat) (S : St) (nb : Nat) : sendN R S nb ≤ 16 := by unfold sendN; split <;> (try split) <;> omega

theorem strmDel {w : World} {B mb : Nat} {m : Mem} {S : St} {E : Nat → Addr} (hS : StrmAt w B m S) (hE : Errs w E) (Ab Am : Option Addr) (nb cb nm cm : Nat) (b : List UInt8) (L : List Int) (hd : ¬ m.In mb) (hmb : mb < w.heap.size)
    (hsz : S.read + S.inn.length ≤ 500000) (hnb : nb ≤ 1000) (hnm : nm ≤ 1000) (hmz : S.marks.length ≤ 500000)
    (hr : Rd w 1 Am nm (intsV L)) (hrb : Rd w 1 Ab nb (bytesV b)) (hA : 0 < nb → ∀ k, ob (.slice Ab nb cb) = k + 1 → ¬ m.In k) (hA' : 0 < nm → ∀ k, ob (.slice Am nm cm) = k + 1 → ¬ m.In k) (z : Nat) (hz : delN S nb (risA (-1) nb L) = z) :
    Calls Tryd.prog 24 #[.pointer (some ⟨m.a, 0, none⟩), .slice Ab nb cb, .slice Am nm cm] w fun e w' => e = .returned (errN E z) ∧ StNow w' B m.a m.R mb (if z = 0 then S.deliver b L else S) ∧ Chg m.Y w w' := by
  by_cases h0 : z = 0
  · have hcl : S.closed = false := by
      cases h : S.closed
      · rfl
      · unfold delN at hz; rw [h] at hz; simp at hz; omega
    have hris : risA (-1) nb L = true := by
      cases h : risA (-1) nb L
      · unfold delN at hz; rw [hcl, h] at hz; simp at hz; omega
      · rfl
    have hfit : S.inn.length + nb ≤ 4096 := Nat.le_of_not_lt fun hf => by
      unfold delN at hz
      rw [hcl, hris] at hz
      simp [hf] at hz
      omega
    refine (strmDeliver hS Ab Am nb cb nm cm b L ⟨by omega, hfit⟩ (by omega) hr hrb hA hA' hris hcl).mono ?_
    rintro e w' ⟨rfl, ht⟩
    obtain ⟨h1, h2⟩ := ht.now hd hmb
    rw [if_pos h0]
    exact ⟨by unfold errN; rw [if_pos h0], h1, h2⟩
  · have hi : DelErr S nb (risA (-1) nb L) (z - 1) := by
      unfold delN at hz
      unfold DelErr
      cases hcl : S.closed
      · rw [hcl] at hz
        cases hris : risA (-1) nb L
        · rw [hris] at hz; simp at hz; right; left; exact ⟨rfl, rfl, by omega⟩
        · rw [hris] at hz
          simp at hz
          right; right
          by_cases hf : 4096 < S.inn.length + nb
          · rw [if_pos hf] at hz; exact ⟨rfl, rfl, hf, by omega⟩
          · rw [if_neg hf] at hz; omega
      · rw [hcl] at hz; simp at hz; left; exact ⟨rfl, by omega⟩
    refine (strmDeliverErr hS (hE.some _) Ab Am nb cb nm cm L (by omega) (by omega) hr _ rfl (z - 1) hi).mono ?_
    rintro e w' ⟨rfl, rfl⟩
    rw [if_neg h0]
    exact ⟨by unfold errN; rw [if_neg h0], ⟨m, hS, rfl, rfl, hd⟩, Chg.refl _ _⟩
theorem strmSnd {w : World} {B mb : Nat} {m : Mem} {S : St} {E : Nat → Addr} (hS : StrmAt w B m S) (hE : Errs w E) (Ab : Option Addr) (nb cb : Nat) (b : List UInt8) (hd : ¬ m.In mb) (hmb : mb < w.heap.size)
    (hsz : S.wire.length + S.q.length ≤ 500000) (hnb : nb ≤ 1000) (hcb : nb ≤ cb) (hrb : Rd w 1 Ab nb (bytesV b)) (hA : 0 < nb → ∀ k, ob (.slice Ab nb cb) = k + 1 → ¬ m.In k) (z : Nat) (hz : sendN m.R S nb = z) :
    Calls Tryd.prog 26 #[.pointer (some ⟨m.a, 0, none⟩), .slice Ab nb cb] w fun e w' => e = .returned (errN E z) ∧ StNow w' B m.a m.R mb (if z = 0 then { S with q := S.q ++ b } else S) ∧ Chg m.Y w w' := by
  by_cases h0 : z = 0
  · have hcl : S.closed = false := by
      cases h : S.closed
      · rfl
      · unfold sendN at hz; rw [h] at hz; simp at hz; omega
    have hfit : S.q.length + nb ≤ m.R := Nat.le_of_not_lt fun hf => by
      unfold sendN at hz
      rw [hcl] at hz
      simp [hf] at hz
      omega
    refine (strmSend hS Ab nb cb b hcb hrb hA (by omega) hcl hfit).mono ?_
    rintro e w' ⟨rfl, ht⟩
    obtain ⟨h1, h2⟩ := ht.now hd hmb
    rw [if_pos h0]
    exact ⟨by unfold errN; rw [if_pos h0], h1, h2⟩
  · have hq := hS.ring.circ.fits
    have hi : SendErr m S nb (z - 1) := by
      unfold sendN at hz
      unfold SendErr
      cases hcl : S.closed
      · rw [hcl] at hz
        simp only [Bool.false_eq_true, if_false] at hz
        by_cases hf : m.R < S.q.length + nb
        · rw [if_pos hf] at hz; right; exact ⟨rfl, by omega, by omega⟩
        · rw [if_neg hf] at hz; omega
      · rw [hcl] at hz; simp at hz; left; exact ⟨rfl, by omega⟩
    refine (strmSendErr hS (hE.some _) Ab nb cb (by omega) (z - 1) hi).mono ?_
    rintro e w' ⟨rfl, hx⟩
    rw [if_neg h0]
    exact ⟨by unfold errN; rw [if_neg h0], ⟨m, hS.keep hx, rfl, rfl, hd⟩, .of_ext hx⟩
theorem strmGrt {w : World} {B mb : Nat} {m : Mem} {S : St} (hS : StrmAt w B m S) (hd : ¬ m.In mb) (hmb : mb < w.heap.size) (n : Int) (k : Nat) (hk : k = if S.closed then 0 else min n.toNat S.q.length) :
    Calls Tryd.prog 27 #[.pointer (some ⟨m.a, 0, none⟩), .int .i64 n] w fun e w' => e = .returned (.int .i64 k) ∧ StNow w' B m.a m.R mb { S with q := S.q.drop k, wire := S.wire ++ S.q.take k } ∧ Chg m.Y w w' := by
  by_cases hcl : S.closed = true
  · rw [if_pos hcl] at hk
    subst hk
    refine (strmGrant0 hS n hcl).mono ?_
    rintro e w' ⟨rfl, rfl⟩
    refine ⟨rfl, ⟨m, ?_, rfl, rfl, hd⟩, Chg.refl _ _⟩
    simpa using hS
  · rw [if_neg hcl] at hk
    refine (strmGrant hS n k hk (by simpa using hcl)).mono ?_
    rintro e w' ⟨rfl, ht⟩
    obtain ⟨h1, h2⟩ := ht.now hd hmb
    exact ⟨rfl, h1, h2⟩

/-- The document's, likewise. -/
theorem mdDel {w : World} {B mb R : Nat} {vk : Value} {C : List UInt8} {mk : List Bool} {S : St} {Y : List Nat} (h : MdAt w B mb vk R C mk S) (b : List UInt8) (L : List Int) (Am : Option Addr) (nm cm : Nat) (hb : C.length ≤ 500000) (hb1 : b.length ≤ 1000) (hnm : nm ≤ 1000) (hr : Rd w 1 Am nm (intsV L))
    (z : Nat) (hz : delN S b.length (risA (-1) b.length L) = z) (hBw : B ≤ w.heap.size) (hY : ∀ y ∈ Y, y < w.heap.size) (hd : mb ∉ Y) (hd' : ∀ k, ob vk = k + 1 → k ∉ Y) :
    Calls Tryd.prog 65 #[.pointer (some ⟨mb, 0, none⟩), .string ⟨b.toArray⟩, .slice Am nm cm] w fun e w' => e = .returned (.int .i64 z) ∧ MdNow w' B mb R (C.length + b.length) Y (if z = 0 then S.deliver b L else S) ∧ Chg [mb] w w' := by
  refine (refDeliver h b L Am nm cm (by omega) (by omega) hr _ rfl z hz hBw).mono ?_
  rintro e w' ⟨rfl, hc, h1, h2⟩
  refine ⟨rfl, ?_, hc⟩
  by_cases h0 : z = 0
  · rw [if_pos h0]
    obtain ⟨vk', hm, hob⟩ := h2 h0
    exact ⟨vk', _, _, hm, by rw [List.length_append]; exact Nat.le_refl _, hd, fun k hk hm => by have := hY k hm; omega⟩
  · rw [if_neg h0]
    exact ⟨vk, C, mk, h.keep (h1 h0), by omega, hd, hd'⟩
theorem mdSnd {w : World} {B mb R : Nat} {vk : Value} {C : List UInt8} {mk : List Bool} {S : St} {Y : List Nat} (h : MdAt w B mb vk R C mk S) (b : List UInt8) (hb : S.wire.length + S.q.length ≤ 500000) (hb1 : b.length ≤ 1000) (hR : R ≤ 1000000) (z : Nat) (hz : sendN R S b.length = z) (hd : mb ∉ Y) (hd' : ∀ k, ob vk = k + 1 → k ∉ Y) :
    Calls Tryd.prog 68 #[.pointer (some ⟨mb, 0, none⟩), .string ⟨b.toArray⟩] w fun e w' => e = .returned (.int .i64 z) ∧ MdNow w' B mb R C.length Y (if z = 0 then { S with q := S.q ++ b } else S) ∧ Chg [mb] w w' := by
  by_cases h0 : z = 0
  · subst h0
    refine (refSend h b (by omega) hR hz).mono ?_
    rintro e w' ⟨rfl, hm, hc⟩
    exact ⟨rfl, ⟨vk, C, mk, hm, Nat.le_refl _, hd, hd'⟩, hc⟩
  · refine (refSendErr h b (by omega) hR z hz h0).mono ?_
    rintro e w' ⟨rfl, hx⟩
    rw [if_neg h0]
    exact ⟨rfl, ⟨vk, C, mk, h.keep hx, Nat.le_refl _, hd, hd'⟩, .of_ext hx⟩
theorem mdGrt {w : World} {B mb R : Nat} {vk : Value} {C : List UInt8} {mk : List Bool} {S : St} {Y : List Nat} (h : MdAt w B mb vk R C mk S) (n : Int) (k : Nat) (hk : k = if S.closed then 0 else min n.toNat S.q.length) (hd : mb ∉ Y) (hd' : ∀ k, ob vk = k + 1 → k ∉ Y) :
    Calls Tryd.prog 69 #[.pointer (some ⟨mb, 0, none⟩), .int .i64 n] w fun e w' => e = .returned (.int .i64 k) ∧ MdNow w' B mb R C.length Y { S with q := S.q.drop k, wire := S.wire ++ S.q.take k } ∧ Chg [mb] w w' := by
  refine (refGrant h n k hk).mono ?_
  rintro e w' ⟨rfl, hm, hc⟩
  exact ⟨rfl, ⟨vk, C, mk, hm, Nat.le_refl _, hd, hd'⟩, hc⟩
end Go.Proofs.YtnbdmlpnoiljdaaDoor
