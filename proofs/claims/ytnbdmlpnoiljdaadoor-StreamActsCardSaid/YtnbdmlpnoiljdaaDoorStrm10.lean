/- The document's stream: what it is in memory; its calls. -/
import Derived.Test.YtnbdmlpnoiljdaaDoorStrm6
import Derived.Test.YtnbdmlpnoiljdaaDoorNum
namespace Go.Proofs.YtnbdmlpnoiljdaaDoor
open Go Go.RowKit

/-- The places, from k on, that are marked. -/
def placesFrom : Nat → List Bool → List Int
  | _, [] => []
  | k, b :: r => (if b then [(k : Int)] else []) ++ placesFrom (k + 1) r
theorem places_ge : ∀ (l : List Bool) (k : Nat), ∀ x ∈ placesFrom k l, (k : Int) ≤ x := by
  intro l
  induction l with
  | nil => intro k x hx; simp [placesFrom] at hx
  | cons b r ih =>
    intro k x hx
    simp only [placesFrom, List.mem_append] at hx
    rcases hx with hx | hx
    · cases b
      · simp at hx
      · simp at hx; omega
    · have := ih (k + 1) x hx; omega
theorem places_append : ∀ (l r : List Bool) (k : Nat), placesFrom k (l ++ r) = placesFrom k l ++ placesFrom (k + l.length) r := by
  intro l
  induction l with
  | nil => intro r k; simp [placesFrom]
  | cons b l ih =>
    intro r k
    simp only [List.cons_append, placesFrom, ih, List.length_cons, List.append_assoc]
    rw [show k + 1 + l.length = k + (l.length + 1) by omega]
theorem places_len : ∀ (l : List Bool) (k : Nat), (placesFrom k l).length ≤ l.length := by
  intro l
  induction l with
  | nil => intro k; simp [placesFrom]
  | cons b r ih =>
    intro k
    have := ih (k + 1)
    cases b <;> simp [placesFrom] <;> omega
theorem places_none : ∀ (n k : Nat), placesFrom k (List.replicate n false) = [] := by
  intro n
  induction n with
  | zero => intro k; rfl
  | succ n ih => intro k; simp [List.replicate_succ, placesFrom, ih]

theorem Tryd.elemBo : Elem Tryd.prog 61 4 (.bool false) 1 1 := ⟨Tryd.underlying61, by kernel_rfl, rfl, by omega⟩
theorem one_boolsV (l : List Bool) : ∀ u ∈ boolsV l, u.oneCell' = true := by
  intro u hu; obtain ⟨_, _, rfl⟩ := List.mem_map.1 hu; rfl

structure MdAt (w : World) (B mb : Nat) (vk : Value) (R : Nat) (C : List UInt8) (mk : List Bool) (S : St) : Prop where
  blk : Blk w mb 63 [.int .i64 R, .string ⟨C.toArray⟩, vk, .int .i64 S.read, .bool S.closed, .string ⟨(S.wire ++ S.q).toArray⟩, .int .i64 S.wire.length]
  own : OwnO w B 4 vk mk.length (boolsV mk)
  ne : ob vk ≠ mb + 1
  low : B ≤ mb
  len : mk.length = C.length
  inn : C.drop S.read = S.inn
  le : S.read ≤ C.length
  mks : S.marks = placesFrom S.read (mk.drop S.read)
  small : C.length ≤ 1000000 ∧ S.wire.length + S.q.length ≤ 1000000
theorem MdAt.chg {w w' : World} {B mb : Nat} {vk : Value} {R : Nat} {C : List UInt8} {mk : List Bool} {S : St} {X : List Nat} (h : MdAt w B mb vk R C mk S) (hc : Chg X w w') (h1 : mb ∉ X) (h2 : ∀ k, ob vk = k + 1 → k ∉ X) : MdAt w' B mb vk R C mk S :=
  ⟨h.blk.chg hc h1, h.own.chg' hc h2, h.ne, h.low, h.len, h.inn, h.le, h.mks, h.small⟩
theorem MdAt.keep {w w' : World} {B mb : Nat} {vk : Value} {R : Nat} {C : List UInt8} {mk : List Bool} {S : St} (h : MdAt w B mb vk R C mk S) (hb : Ext w w') : MdAt w' B mb vk R C mk S := h.chg (X := []) (.of_ext hb) (by simp) (by simp)

set_option maxHeartbeats 400000 in
theorem refNext0 {w : World} {B mb R : Nat} {vk : Value} {C : List UInt8} {mk : List Bool} {S : St} (h : MdAt w B mb vk R C mk S) (h0 : S.inn = []) :
    Calls Tryd.prog 67 #[.pointer (some ⟨mb, 0, none⟩)] w fun e w' => e = .returned (.tuple #[.int .u8 0, .bool false, .bool false]) ∧ Ext w w' := by
  have e1 : w.cell? ⟨mb, 1, none⟩ = some (.string ⟨C.toArray⟩) := h.blk.cell 1
  have e3 : w.cell? ⟨mb, 3, none⟩ = some (.int .i64 S.read) := h.blk.cell 3
  have hr : S.read = C.length := by
    have h1 := h.inn
    rw [h0, List.drop_eq_nil_iff] at h1
    have := h.le; omega
  rw [hr] at e3
  clear hr
  go_enter Tryd.func67, Tryd.ntmps67
  go_wp2
  go_quiet (fail)
  go_wp2
  go_ret3
  exact ⟨rfl, Ext.drawn _ _⟩

set_option maxHeartbeats 1000000 in
set_option maxRecDepth 20000 in
theorem refNext1 {w : World} {B mb R : Nat} {vk : Value} {C : List UInt8} {mk : List Bool} {S : St} (h : MdAt w B mb vk R C mk S) (c : UInt8) (r : List UInt8) (h0 : S.inn = c :: r) :
    Calls Tryd.prog 67 #[.pointer (some ⟨mb, 0, none⟩)] w fun e w' => e = .returned (.tuple #[.int .u8 c.toNat, .bool (markNow S), .bool true]) ∧ MdAt w' B mb vk R C mk S.next ∧ Chg [mb] w w' := by
  obtain ⟨rd, hrd⟩ : ∃ rd, S.read = rd := ⟨_, rfl⟩
  have hin := h.inn
  rw [hrd, h0] at hin
  have hlt : rd < C.length := by
    rcases Nat.lt_or_ge rd C.length with h' | h'
    · exact h'
    · rw [List.drop_of_length_le h'] at hin; cases hin
  have hC : C[rd] = c := by rw [List.drop_eq_getElem_cons hlt] at hin; exact (List.cons.inj hin).1
  have hCr : C.drop (rd + 1) = r := by rw [List.drop_eq_getElem_cons hlt] at hin; exact (List.cons.inj hin).2
  have hltm : rd < mk.length := by have := h.len; omega
  obtain ⟨b, hb⟩ : ∃ b, mk[rd] = b := ⟨_, rfl⟩
  have hmks := h.mks
  rw [hrd, List.drop_eq_getElem_cons hltm, hb] at hmks
  simp only [placesFrom] at hmks
  have hnow : markNow S = b := by
    unfold markNow
    rw [hmks, hrd]
    cases b
    · simp only [Bool.false_eq_true, if_false, List.nil_append]
      cases hp : placesFrom (rd + 1) (mk.drop (rd + 1)) with
      | nil => rfl
      | cons x y =>
        have := places_ge _ _ x (by rw [hp]; exact List.mem_cons_self)
        simp; omega
    · simp
  have hnext : S.next.marks = placesFrom (rd + 1) (mk.drop (rd + 1)) := by
    unfold St.next
    simp only [hnow]
    rw [hmks]
    cases b <;> simp
  obtain ⟨A, ck, hvk, _, _, hrk⟩ := h.own.rd
  obtain ⟨gk, ok, rfl, _, hck⟩ := hrk.2 (by simp [boolsV]; omega)
  have hcell : w.cell? ⟨gk, ok + rd, none⟩ = some (.bool b) := hck rd _ (by simp [boolsV, hb, hltm])
  have e1 : w.cell? ⟨mb, 1, none⟩ = some (.string ⟨C.toArray⟩) := h.blk.cell 1
  have e2 : w.cell? ⟨mb, 2, none⟩ = some vk := h.blk.cell 2
  have e3 : w.cell? ⟨mb, 3, none⟩ = some (.int .i64 S.read) := h.blk.cell 3
  rw [hvk] at e2
  rw [hrd] at e3
  have hne := h.ne
  rw [hvk, ob_slice] at hne
  have hgk : gk ≠ mb := fun e => hne (by rw [e])
  have hbe : ((rd : Int) == (C.length : Int)) = false := by simp; omega
  have hsm := h.small
  have hml := h.len
  have HC := Lib.hid hC
  have HNOW := Lib.hid hnow
  have HNEXT := Lib.hid hnext
  have HCR := Lib.hid hCr
  have HRD := Lib.hid hrd
  have HH := Lib.hid h
  have HVK := Lib.hid hvk
  have hmr : rd + 1 ≤ mk.length := hltm
  clear hC hnow hnext hCr hrd h hin hmks hck hne hrk hvk hb
  go_enter Tryd.func67, Tryd.ntmps67
  go_wp2
  go_quiet (fail)
  have hB1 := HH.out.blk.keep (Ext.drawn w nq)
  have hc1 : Chg [mb] w (w.drewN nq) := .of_ext (Ext.drawn _ _)
  have hcell1 := (Ext.drawn w nq).cell (p := ⟨gk, ok + rd, none⟩) (by rcases Nat.lt_or_ge gk w.heap.size with h' | h'; exact h'; simp [World.cell?, Array.getElem?_eq_none h'] at hcell) |>.trans hcell
  generalize w.drewN nq = w1 at hB1 hc1 hcell1 ⊢
  have d3 : w1.cell? ⟨mb, 3, none⟩ = some (.int .i64 rd) := by rw [← HRD.out]; exact hB1.cell 3
  have f3 := hB1.frozen 3
  clear e1 e2 e3 hcell
  go_wp2
  have hB2 := hB1.set_ 3 (.int .i64 ((rd : Int) + 1))
  have hc2 : Chg [mb] w (w1.setCell ⟨mb, 3, none⟩ (.int .i64 ((rd : Int) + 1))) := hc1.setCell (by simp) _
  have hcell2 : (w1.setCell ⟨mb, 3, none⟩ (.int .i64 ((rd : Int) + 1))).cell? ⟨gk, ok + rd, none⟩ = some (.bool b) := ((Chg.refl [mb] w1).setCell (p := ⟨mb, 3, none⟩) (by simp) _).cell hcell1 (by simpa using hgk)
  generalize w1.setCell ⟨mb, 3, none⟩ (.int .i64 ((rd : Int) + 1)) = w2 at hB2 hc2 hcell2 ⊢
  clear hcell1 d3 f3 hB1 hc1
  simp only [List.set_cons_succ, List.set_cons_zero] at hB2
  have d1 : w2.cell? ⟨mb, 1, none⟩ = some (.string ⟨C.toArray⟩) := hB2.cell 1
  have d2 : w2.cell? ⟨mb, 2, none⟩ = some (.slice (some ⟨gk, ok, none⟩) mk.length ck) := by rw [← HVK.out]; exact hB2.cell 2
  have d3 : w2.cell? ⟨mb, 3, none⟩ = some (.int .i64 ((rd : Int) + 1)) := hB2.cell 3
  have HB2 := Lib.hid hB2
  have HC2 := Lib.hid hc2
  clear hB2 hc2
  go_quiet (fail)
  go_wp2
  go_ret3
  have hx := Ext.drawn w2 nq
  refine ⟨by rw [HNOW.out, ← HC.out]; rfl, ?_, HC2.out.trans (.of_ext hx)⟩
  have hb3 := HB2.out.keep hx
  have hc3 : Chg [mb] w (w2.drewN nq) := HC2.out.trans (.of_ext hx)
  refine ⟨?_, HH.out.own.chg' hc3 (fun k hk hm => HH.out.ne (by simp at hm; rw [hm] at hk; exact hk)), HH.out.ne, HH.out.low, HH.out.len, ?_, ?_, ?_, HH.out.small⟩
  · have e : ((S.next.read : Nat) : Int) = (rd : Int) + 1 := by unfold St.next; simp [HRD.out]
    rw [e]
    exact hb3
  · show C.drop (S.read + 1) = S.inn.tail
    rw [HRD.out, HCR.out, h0]
    rfl
  · show S.read + 1 ≤ C.length
    have := HRD.out
    omega
  · rw [HNEXT.out]
    show _ = placesFrom (S.read + 1) (mk.drop (S.read + 1))
    rw [HRD.out]

/-- What a delivery answers. -/
def sendN (R : Nat) (S : St) (nb : Nat) : Nat := if S.closed then 14 else if R < S.q.length + nb then 2 else 0

set_option maxHeartbeats 1000000 in
set_option maxRecDepth 20000 in
theorem refSendErr {w : World} {B mb R : Nat} {vk : Value} {C : List UInt8} {mk : List Bool} {S : St} (h : MdAt w B mb vk R C mk S) (b : List UInt8) (hb : b.length ≤ 1000000) (hR : R ≤ 1000000) (z : Nat) (hz : sendN R S b.length = z) (hp : z ≠ 0) :
    Calls Tryd.prog 68 #[.pointer (some ⟨mb, 0, none⟩), .string ⟨b.toArray⟩] w fun e w' => e = .returned (.int .i64 z) ∧ Ext w w' := by
  have e0 : w.cell? ⟨mb, 0, none⟩ = some (.int .i64 R) := h.blk.cell 0
  have e4 : w.cell? ⟨mb, 4, none⟩ = some (.bool S.closed) := h.blk.cell 4
  have e5 : w.cell? ⟨mb, 5, none⟩ = some (.string ⟨(S.wire ++ S.q).toArray⟩) := h.blk.cell 5
  have e6 : w.cell? ⟨mb, 6, none⟩ = some (.int .i64 S.wire.length) := h.blk.cell 6
  have hsm := h.small.2
  have hlen : (S.wire ++ S.q).length = S.wire.length + S.q.length := List.length_append
  obtain ⟨T, hT⟩ : ∃ T, S.wire ++ S.q = T := ⟨_, rfl⟩
  rw [hT] at e5 hlen
  obtain ⟨cl, hcl⟩ : ∃ cl, S.closed = cl := ⟨_, rfl⟩
  rw [hcl] at e4
  unfold sendN at hz
  rw [hcl] at hz
  clear h hT hcl
  cases cl with
  | true =>
    simp only [if_true] at hz
    subst hz
    go_enter Tryd.func68, Tryd.ntmps68
    go_wp2
    go_ret
    exact ⟨rfl, Ext.refl _⟩
  | false =>
    simp only [Bool.false_eq_true, if_false] at hz
    by_cases hf : R < S.q.length + b.length
    · rw [if_pos hf] at hz
      subst hz
      have hg : (R : Int) < T.length - S.wire.length + b.length := by omega
      go_enter Tryd.func68, Tryd.ntmps68
      go_wp2
      go_quiet (fail)
      go_wp2
      go_ret
      exact ⟨rfl, Ext.drawn _ _⟩
    · rw [if_neg hf] at hz
      omega

set_option maxHeartbeats 1000000 in
set_option maxRecDepth 20000 in
theorem refSend {w : World} {B mb R : Nat} {vk : Value} {C : List UInt8} {mk : List Bool} {S : St} (h : MdAt w B mb vk R C mk S) (b : List UInt8) (hb : S.wire.length + (S.q.length + b.length) ≤ 1000000) (_ : R ≤ 1000000) (hz : sendN R S b.length = 0) :
    Calls Tryd.prog 68 #[.pointer (some ⟨mb, 0, none⟩), .string ⟨b.toArray⟩] w fun e w' => e = .returned (.int .i64 0) ∧ MdAt w' B mb vk R C mk { S with q := S.q ++ b } ∧ Chg [mb] w w' := by
  have e0 : w.cell? ⟨mb, 0, none⟩ = some (.int .i64 R) := h.blk.cell 0
  have e4 : w.cell? ⟨mb, 4, none⟩ = some (.bool S.closed) := h.blk.cell 4
  have e5 : w.cell? ⟨mb, 5, none⟩ = some (.string ⟨(S.wire ++ S.q).toArray⟩) := h.blk.cell 5
  have e6 : w.cell? ⟨mb, 6, none⟩ = some (.int .i64 S.wire.length) := h.blk.cell 6
  have hlen : (S.wire ++ S.q).length = S.wire.length + S.q.length := List.length_append
  have hcl : S.closed = false := by
    unfold sendN at hz
    cases hc : S.closed
    · rfl
    · rw [hc] at hz; simp at hz
  have hfit : ¬ R < S.q.length + b.length := by
    unfold sendN at hz
    rw [hcl] at hz
    intro hf
    simp [hf] at hz
  rw [hcl] at e4
  obtain ⟨T, hT⟩ : ∃ T, S.wire ++ S.q = T := ⟨_, rfl⟩
  rw [hT] at e5 hlen
  have hg : ¬ (R : Int) < T.length - S.wire.length + b.length := by omega
  have hcat : ¬ 9223372036854775807 < T.length + b.length := by omega
  have HH := Lib.hid h
  have HT := Lib.hid hT
  clear h hT hcl hz
  go_enter Tryd.func68, Tryd.ntmps68
  go_wp2
  go_quiet (fail)
  have hB1 := HH.out.blk.keep (Ext.drawn w nq)
  rw [HT.out] at hB1
  have hc1 : Chg [mb] w (w.drewN nq) := .of_ext (Ext.drawn _ _)
  generalize w.drewN nq = w1 at hB1 hc1 ⊢
  have d5 : w1.cell? ⟨mb, 5, none⟩ = some (.string ⟨T.toArray⟩) := hB1.cell 5
  have f5 := hB1.frozen 5
  clear e0 e4 e5 e6
  go_wp2
  go_ret
  have hc2 : Chg [mb] w (w1.setCell ⟨mb, 5, none⟩ (.string ⟨(T ++ b).toArray⟩)) := hc1.setCell (by simp) _
  refine ⟨rfl, ⟨?_, HH.out.own.chg' hc2 (fun k hk hm => HH.out.ne (by simp at hm; rw [hm] at hk; exact hk)), HH.out.ne, HH.out.low, HH.out.len, HH.out.inn, HH.out.le, HH.out.mks, HH.out.small.1, by simp only [List.length_append]; omega⟩, hc2⟩
  have e : S.wire ++ (S.q ++ b) = T ++ b := by rw [← HT.out, List.append_assoc]
  show Blk _ mb _ [.int .i64 R, .string ⟨C.toArray⟩, vk, .int .i64 S.read, .bool S.closed, .string ⟨(S.wire ++ (S.q ++ b)).toArray⟩, .int .i64 S.wire.length]
  rw [e]
  exact hB1.set_ 5 (.string ⟨(T ++ b).toArray⟩)

set_option maxHeartbeats 1000000 in
set_option maxRecDepth 20000 in
theorem refGrant {w : World} {B mb R : Nat} {vk : Value} {C : List UInt8} {mk : List Bool} {S : St} (h : MdAt w B mb vk R C mk S) (n : Int) (k : Nat) (hk : k = if S.closed then 0 else min n.toNat S.q.length) :
    Calls Tryd.prog 69 #[.pointer (some ⟨mb, 0, none⟩), .int .i64 n] w fun e w' => e = .returned (.int .i64 k) ∧ MdAt w' B mb vk R C mk { S with q := S.q.drop k, wire := S.wire ++ S.q.take k } ∧ Chg [mb] w w' := by
  have hlen : (S.wire ++ S.q).length = S.wire.length + S.q.length := List.length_append
  have hkq : k ≤ S.q.length := by rw [hk]; split <;> omega
  have hst : ∀ j : Nat, (S.wire ++ S.q.take j) ++ S.q.drop j = S.wire ++ S.q := fun j => by rw [List.append_assoc, List.take_append_drop]
  have HST := Lib.hid hst
  have HH := Lib.hid h
  have HK := Lib.hid hk
  have hsm := h.small.2
  obtain ⟨T, hT⟩ : ∃ T, S.wire ++ S.q = T := ⟨_, rfl⟩
  rw [hT] at hlen
  have HT := Lib.hid hT
  obtain ⟨cl, hcl⟩ : ∃ cl, S.closed = cl := ⟨_, rfl⟩
  have HCL := Lib.hid hcl
  clear h hst hk hT hcl
  go_enter Tryd.func69, Tryd.ntmps69
  go_wp2
  go_loopw [5] (fun i wr => ∃ j o : Nat, j ≤ k ∧ i = .int .i64 j ∧ o = S.wire.length + j ∧ Chg [mb] w wr ∧ Blk wr mb 63 [.int .i64 R, .string ⟨C.toArray⟩, vk, .int .i64 S.read, .bool cl, .string ⟨T.toArray⟩, .int .i64 o]) (fun i _ => k - (intOf i).toNat)
  case atStart => exact ⟨0, S.wire.length, Nat.zero_le _, rfl, rfl, Chg.refl _ _, by rw [← HT.out, ← HCL.out]; exact HH.out.blk⟩
  case round =>
    obtain ⟨j, o, hj, rfl, ho, hc, hb⟩ := hrel
    have HO := Lib.hid ho
    have e4 : wr.cell? ⟨mb, 4, none⟩ = some (.bool cl) := hb.cell 4
    have e5 : wr.cell? ⟨mb, 5, none⟩ = some (.string ⟨T.toArray⟩) := hb.cell 5
    have e6 : wr.cell? ⟨mb, 6, none⟩ = some (.int .i64 o) := hb.cell 6
    have HC := Lib.hid hc
    have HB := Lib.hid hb
    have ho1 : S.wire.length ≤ o ∧ o ≤ S.wire.length + k := by omega
    clear hc hb
    by_cases hlt : j < k
    · -- one goes
      have hk := HK.out
      have hclf : cl = false := by
        cases cl with
        | false => rfl
        | true => rw [HCL.out] at hk; simp at hk; omega
      subst hclf
      rw [HCL.out] at hk
      simp only [Bool.false_eq_true, if_false] at hk
      have g1 : decide ((j : Int) < n) = true := decide_eq_true (by omega)
      have g1' : (j : Int) < n := by omega
      have g2 : (o : Int) < T.length := by omega
      have g3 : decide ((o : Int) < (T.length : Int)) = true := decide_eq_true g2
      clear hk ho hlen
      go_wp2
      go_quiet (fail)
      have hx := Ext.drawn wr nq
      have hB1 := HB.out.keep hx
      have hc1 : Chg [mb] w (wr.drewN nq) := HC.out.trans (.of_ext hx)
      generalize wr.drewN nq = w1 at hB1 hc1 ⊢
      have d6 : w1.cell? ⟨mb, 6, none⟩ = some (.int .i64 o) := hB1.cell 6
      have f6 := hB1.frozen 6
      clear e4 e5 e6 hx g1 g3
      go_wp2
      go_roundw
      case rel => exact ⟨j + 1, o + 1, hlt, by go_num, by have := HO.out; omega, hc1.setCell (by simp) _, by have := hB1.set_ 6 (.int .i64 ((o : Int) + 1)); simpa using this⟩
      case measure => simp [intOf]; omega
    · obtain rfl : j = k := by omega
      have hfin : ∀ w' , Chg [mb] w w' → Blk w' mb 63 [.int .i64 R, .string ⟨C.toArray⟩, vk, .int .i64 S.read, .bool cl, .string ⟨T.toArray⟩, .int .i64 o] → MdAt w' B mb vk R C mk { S with q := S.q.drop j, wire := S.wire ++ S.q.take j } := fun w' hc' hb' => by
        refine ⟨?_, HH.out.own.chg' hc' (fun k hk hm => HH.out.ne (by simp at hm; rw [hm] at hk; exact hk)), HH.out.ne, HH.out.low, HH.out.len, HH.out.inn, HH.out.le, HH.out.mks, HH.out.small.1, by simp only [List.length_append, List.length_take, List.length_drop]; omega⟩
        show Blk w' mb _ [.int .i64 R, .string ⟨C.toArray⟩, vk, .int .i64 S.read, .bool S.closed, .string ⟨((S.wire ++ S.q.take j) ++ S.q.drop j).toArray⟩, .int .i64 ((S.wire ++ S.q.take j).length : Nat)]
        rw [HST.out, HT.out, HCL.out, List.length_append, List.length_take, Nat.min_eq_left hkq, ← HO.out]
        exact hb'
      have HF := Lib.hid hfin
      have hk := HK.out
      rw [HCL.out] at hk
      clear hfin
      by_cases hn : (j : Int) < n
      · have g1 : decide ((j : Int) < n) = true := decide_eq_true hn
        by_cases hl : S.wire.length + j < T.length
        · -- closed
          have hclt : cl = true := by
            cases cl with
            | true => rfl
            | false => simp at hk; omega
          subst hclt
          have g2 : (o : Int) < T.length := by omega
          have g3 : decide ((o : Int) < (T.length : Int)) = true := decide_eq_true g2
          clear hl
          clear hk ho hlen
          go_wp2
          go_quiet (fail)
          go_wp2
          go_ret
          exact ⟨rfl, HF.out _ (HC.out.trans (.of_ext (Ext.drawn _ _))) (HB.out.keep (Ext.drawn _ _)), HC.out.trans (.of_ext (Ext.drawn _ _))⟩
        · have g3 : decide (o < T.length) = false := decide_eq_false (by omega)
          clear hl
          clear hk ho hlen
          go_wp2
          go_quiet (fail)
          go_wp2
          go_ret
          exact ⟨rfl, HF.out _ (HC.out.trans (.of_ext (Ext.drawn _ _))) (HB.out.keep (Ext.drawn _ _)), HC.out.trans (.of_ext (Ext.drawn _ _))⟩
      · have g1 : decide ((j : Int) < n) = false := decide_eq_false hn
        clear hk ho hlen
        go_wp2
        go_quiet (fail)
        go_wp2
        go_ret
        exact ⟨rfl, HF.out _ (HC.out.trans (.of_ext (Ext.drawn _ _))) (HB.out.keep (Ext.drawn _ _)), HC.out.trans (.of_ext (Ext.drawn _ _))⟩
end Go.Proofs.YtnbdmlpnoiljdaaDoor
