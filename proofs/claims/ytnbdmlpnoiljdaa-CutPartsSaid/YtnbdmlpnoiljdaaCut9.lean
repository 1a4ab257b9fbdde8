/- layer 39: joined. -/
import Derived.Test.YtnbdmlpnoiljdaaCut8
import Derived.Test.YtnbdmlpnoiljdaaEv2
import Derived.Test.YtnbdmlpnoiljdaaEg
import Derived.Test.YtnbdmlpnoiljdaaActOf
import Derived.Laws.ResultCell
import Derived.BigRegion
namespace Go.Proofs.Ytnbdmlpnoiljdaa
open Go Go.RowKit

/-- What joined gives. -/
def JoinedTo (w w' : World) (a x : Ev) (vb vm : Value) (r : Ending) : Prop :=
  ∃ e' vb' vm', r = .returned (.tuple #[evA e' vb' vm', .bool (canJoin a x)]) ∧ (canJoin a x = true → e' = joinP a x) ∧ Ext w w' ∧
    ((e' = a ∧ vb' = vb ∧ vm' = vm) ∨ (w'.ownsRow w.heap.size 5 1 vb' e'.b.length (bytesV e'.b) ∧ w'.ownsRow w.heap.size 3 1 vm' e'.m.length (intsV e'.m)))

theorem canJoin_kind {a x : Ev} (h : a.kind ≠ x.kind) : canJoin a x = false := by unfold canJoin; simp [h]
theorem canJoin_size {a x : Ev} (h : sizeE a < 0) (hn : 0 ≤ a.n) : canJoin a x = false := by
  have h1 : a.kind ≠ 1 := fun hk => by rw [size1 hk] at h; omega
  have h3 : a.kind ≠ 3 := fun hk => by rw [size3 hk] at h; omega
  unfold canJoin; simp [h1, h3]
theorem canJoin_pads {a x : Ev} (h : a.kind = x.kind) (h3 : a.kind = 3) : canJoin a x = decide (a.n + x.n ≤ 9999) := by
  unfold canJoin; simp [← h, h3]
theorem canJoin_bytes {a x : Ev} (h : a.kind = x.kind) (h1 : a.kind = 1) : canJoin a x = decide (a.b.length + x.b.length ≤ 1024) := by
  unfold canJoin; simp [← h, h1]

set_option maxHeartbeats 1000000 in
set_option maxRecDepth 20000 in
/-- Kinds differ. -/
theorem joined_kind {w : World} {X : List Nat} {a x : Ev} {vb vm ub um : Value} (h : EvOk w X a vb vm) (h' : EvOk w X x ub um) (hk : a.kind ≠ x.kind) :
    Calls Try.prog 25 #[evA a vb vm, evA x ub um] w fun r w' => JoinedTo w w' a x vb vm r := by
  have hcj := canJoin_kind hk
  have hne : (a.kind == x.kind) = false := by simpa using hk
  have HCJ := Lib.hid hcj
  obtain ⟨A, c, B, d, rfl, rfl, h1, h2, h3, h4, hb, hm⟩ := h.open
  obtain ⟨C, e, D, f, rfl, rfl, k1, k2, k3, k4, kb, km⟩ := h'.open
  unfold evA
  unfold maxLen at h2 h4 k2 k4
  clear hb hm kb km h h' hcj
  go_enter Try.func25, Try.ntmps25
  go_wp2
  have hx3 := ((Ext.new1 w (.cells #[.int .i64 a.kind, .int .i64 a.n, .slice A a.b.length c, .slice B a.m.length d] 43)).trans (Ext.new1 _ (.cells #[.int .i64 x.kind, .int .i64 x.n, .slice C x.b.length e, .slice D x.m.length f] 43))).trans (Ext.new1 _ (.cells #[.int .i64 a.kind, .int .i64 a.n, .slice A a.b.length c, .slice B a.m.length d] 43))
  refine bodyPost_ret (v := .tuple #[evA a (.slice A a.b.length c) (.slice B a.m.length d), .bool false]) ?_ rfl ⟨a, _, _, by rw [HCJ.out], by rw [HCJ.out]; simp, hx3, .inl ⟨rfl, rfl, rfl⟩⟩
  rw [results_cell_tmp rfl]
  unfold evA
  go_simp

set_option maxHeartbeats 1000000 in
set_option maxRecDepth 20000 in
/-- An event that is no row. -/
theorem joined_size {w : World} {X : List Nat} {a x : Ev} {vb vm ub um : Value} (h : EvOk w X a vb vm) (h' : EvOk w X x ub um) (hk : a.kind = x.kind) (hs : sizeE a < 0) (hn : 0 ≤ a.n) :
    Calls Try.prog 25 #[evA a vb vm, evA x ub um] w fun r w' => JoinedTo w w' a x vb vm r := by
  have hcj := canJoin_size (x := x) hs hn
  have HCJ := Lib.hid hcj
  have HH := Lib.hid h
  obtain ⟨A, c, B, d, rfl, rfl, h1, h2, h3, h4, hb, hm⟩ := h.open
  obtain ⟨C, e, D, f, rfl, rfl, k1, k2, k3, k4, kb, km⟩ := h'.open
  unfold maxLen at h2 h4 k2 k4
  clear hb hm kb km h h' hcj
  obtain ⟨k, an, ab, am⟩ := a
  obtain ⟨k', xn, xb, xm⟩ := x
  simp only at hk hn h1 h3 k1 k3
  subst hk
  obtain ⟨s, hse⟩ : ∃ s, sizeE ⟨k, an, ab, am⟩ = s := ⟨_, rfl⟩
  rw [hse] at hs
  have HS := Lib.hid hse
  have hx2 := ((Ext.new1 w (.cells #[.int .i64 k, .int .i64 an, .slice A ab.length c, .slice B am.length d] 43)).trans (Ext.new1 _ (.cells #[.int .i64 k, .int .i64 xn, .slice C xb.length e, .slice D xm.length f] 43))).trans (Ext.new1 _ (.cells #[.int .i64 0, .int .i64 0, .slice none 0 0, .slice none 0 0] 43))
  have hX0 := ((Blk.new w 43 #[.int .i64 k, .int .i64 an, .slice A ab.length c, .slice B am.length d]).alloc (.cells #[.int .i64 k, .int .i64 xn, .slice C xb.length e, .slice D xm.length f] 43)).alloc (.cells #[.int .i64 0, .int .i64 0, .slice none 0 0, .slice none 0 0] 43)
  have hX2 : Blk (((w.alloc (.cells #[.int .i64 k, .int .i64 an, .slice A ab.length c, .slice B am.length d] 43)).alloc (.cells #[.int .i64 k, .int .i64 xn, .slice C xb.length e, .slice D xm.length f] 43)).alloc (.cells #[.int .i64 0, .int .i64 0, .slice none 0 0, .slice none 0 0] 43)) (w.heap.size + 1 + 1) 43 [.int .i64 0, .int .i64 0, .slice none 0 0, .slice none 0 0] := by
    have := Blk.new ((w.alloc (.cells #[.int .i64 k, .int .i64 an, .slice A ab.length c, .slice B am.length d] 43)).alloc (.cells #[.int .i64 k, .int .i64 xn, .slice C xb.length e, .slice D xm.length f] 43)) 43 #[.int .i64 0, .int .i64 0, .slice none 0 0, .slice none 0 0]
    simpa using this
  clear hse
  unfold evA
  go_enter Try.func25, Try.ntmps25
  go_wp2_with (go_at_call 32; refine (cutSize (HH.out.keep hx2)).mono ?_; rintro _ w1 ⟨rfl, hb1⟩; rw [HS.out]; have r0 := (hX0.keep hb1).cell 0; have r1 := (hX0.keep hb1).cell 1; have r2 := (hX0.keep hb1).cell 2; have r3 := (hX0.keep hb1).cell 3; have p0 := (hX2.keep hb1).cell 0; have p1 := (hX2.keep hb1).cell 1; have p2 := (hX2.keep hb1).cell 2; have p3 := (hX2.keep hb1).cell 3; have q0 := (hX2.keep hb1).frozen 0; have q1 := (hX2.keep hb1).frozen 1; have q2 := (hX2.keep hb1).frozen 2; have q3 := (hX2.keep hb1).frozen 3)
  obtain ⟨hf, hcf⟩ := set4 (hX2.keep hb1) (.int .i64 k) (.int .i64 an) (.slice A ab.length c) (.slice B am.length d)
  clear p0 p1 p2 p3 q0 q1 q2 q3 r0 r1 r2 r3
  generalize ((((w1.setCell ⟨w.heap.size + 1 + 1, 0, none⟩ (.int .i64 k)).setCell ⟨w.heap.size + 1 + 1, 1, none⟩ (.int .i64 an)).setCell ⟨w.heap.size + 1 + 1, 2, none⟩ (.slice A ab.length c)).setCell ⟨w.heap.size + 1 + 1, 3, none⟩ (.slice B am.length d)) = wf at hf hcf ⊢
  have p0 := hf.cell 0
  have p1 := hf.cell 1
  have p2 := hf.cell 2
  have p3 := hf.cell 3
  have hxf : Ext w wf := hcf.below (hx2.trans hb1) (hx2.trans hb1).size (by simp; omega)
  refine bodyPost_ret (v := .tuple #[evA ⟨k, an, ab, am⟩ (.slice A ab.length c) (.slice B am.length d), .bool false]) ?_ rfl ⟨_, _, _, by rw [HCJ.out], by rw [HCJ.out]; simp, hxf, .inl ⟨rfl, rfl, rfl⟩⟩
  rw [results_cell_tmp rfl]
  unfold evA
  go_simp

set_option maxHeartbeats 1000000 in
set_option maxRecDepth 20000 in
/-- Two rests. -/
theorem joined_pads {w : World} {X : List Nat} {a x : Ev} {vb vm ub um : Value} (h : EvOk w X a vb vm) (h' : EvOk w X x ub um) (hk : a.kind = x.kind) (h3 : a.kind = 3) (hn : 0 ≤ a.n ∧ a.n ≤ 9999) (hn' : 0 ≤ x.n ∧ x.n ≤ 9999) :
    Calls Try.prog 25 #[evA a vb vm, evA x ub um] w fun r w' => JoinedTo w w' a x vb vm r := by
  have hcj := canJoin_pads hk h3
  have HH := Lib.hid h
  obtain ⟨A, c, B, d, rfl, rfl, h1, h2, h3', h4, hb, hm⟩ := h.open
  obtain ⟨C, e, D, f, rfl, rfl, k1, k2, k3, k4, kb, km⟩ := h'.open
  unfold maxLen at h2 h4 k2 k4
  clear hb hm kb km h h'
  obtain ⟨k, an, ab, am⟩ := a
  obtain ⟨k', xn, xb, xm⟩ := x
  simp only at hk hn hn' h1 h3 h3' k1 k3
  subst hk h3
  simp only at hcj
  have HCJ := Lib.hid hcj
  have hsz : sizeE ⟨3, an, ab, am⟩ = an := rfl
  have HS := Lib.hid hsz
  have hjp : joinP ⟨3, an, ab, am⟩ ⟨3, xn, xb, xm⟩ = ⟨3, an + xn, [], []⟩ := rfl
  have HJP := Lib.hid hjp
  have hx2 := ((Ext.new1 w (.cells #[.int .i64 3, .int .i64 an, .slice A ab.length c, .slice B am.length d] 43)).trans (Ext.new1 _ (.cells #[.int .i64 3, .int .i64 xn, .slice C xb.length e, .slice D xm.length f] 43))).trans (Ext.new1 _ (.cells #[.int .i64 0, .int .i64 0, .slice none 0 0, .slice none 0 0] 43))
  have hX0 := ((Blk.new w 43 #[.int .i64 3, .int .i64 an, .slice A ab.length c, .slice B am.length d]).alloc (.cells #[.int .i64 3, .int .i64 xn, .slice C xb.length e, .slice D xm.length f] 43)).alloc (.cells #[.int .i64 0, .int .i64 0, .slice none 0 0, .slice none 0 0] 43)
  have hX1 : Blk (((w.alloc (.cells #[.int .i64 3, .int .i64 an, .slice A ab.length c, .slice B am.length d] 43)).alloc (.cells #[.int .i64 3, .int .i64 xn, .slice C xb.length e, .slice D xm.length f] 43)).alloc (.cells #[.int .i64 0, .int .i64 0, .slice none 0 0, .slice none 0 0] 43)) (w.heap.size + 1) 43 [.int .i64 3, .int .i64 xn, .slice C xb.length e, .slice D xm.length f] := by
    have := (Blk.new (w.alloc (.cells #[.int .i64 3, .int .i64 an, .slice A ab.length c, .slice B am.length d] 43)) 43 #[.int .i64 3, .int .i64 xn, .slice C xb.length e, .slice D xm.length f]).alloc (.cells #[.int .i64 0, .int .i64 0, .slice none 0 0, .slice none 0 0] 43)
    simpa using this
  have hX2 : Blk (((w.alloc (.cells #[.int .i64 3, .int .i64 an, .slice A ab.length c, .slice B am.length d] 43)).alloc (.cells #[.int .i64 3, .int .i64 xn, .slice C xb.length e, .slice D xm.length f] 43)).alloc (.cells #[.int .i64 0, .int .i64 0, .slice none 0 0, .slice none 0 0] 43)) (w.heap.size + 1 + 1) 43 [.int .i64 0, .int .i64 0, .slice none 0 0, .slice none 0 0] := by
    have := Blk.new ((w.alloc (.cells #[.int .i64 3, .int .i64 an, .slice A ab.length c, .slice B am.length d] 43)).alloc (.cells #[.int .i64 3, .int .i64 xn, .slice C xb.length e, .slice D xm.length f] 43)) 43 #[.int .i64 0, .int .i64 0, .slice none 0 0, .slice none 0 0]
    simpa using this
  clear hsz hjp hcj
  unfold evA
  go_enter Try.func25, Try.ntmps25
  go_wp2_with (go_at_call 32; refine (cutSize (HH.out.keep hx2)).mono ?_; rintro _ w1 ⟨rfl, hb1⟩; rw [HS.out]; have r0 := (hX0.keep hb1).cell 0; have r1 := (hX0.keep hb1).cell 1; have r2 := (hX0.keep hb1).cell 2; have r3 := (hX0.keep hb1).cell 3; have s0 := (hX1.keep hb1).cell 0; have s1 := (hX1.keep hb1).cell 1; have p0 := (hX2.keep hb1).cell 0; have p1 := (hX2.keep hb1).cell 1; have p2 := (hX2.keep hb1).cell 2; have p3 := (hX2.keep hb1).cell 3; have q0 := (hX2.keep hb1).frozen 0; have q1 := (hX2.keep hb1).frozen 1; have q2 := (hX2.keep hb1).frozen 2; have q3 := (hX2.keep hb1).frozen 3)
  go_region
  go_wp2
  obtain ⟨hf, hcf⟩ := set4 (hX2.keep hb1) (.int .i64 3) (.int .i64 (an + xn)) (.slice none 0 0) (.slice none 0 0)
  clear p0 p1 p2 p3 q0 q1 q2 q3 r0 r1 r2 r3 s0 s1
  generalize ((((w1.setCell ⟨w.heap.size + 1 + 1, 0, none⟩ (.int .i64 3)).setCell ⟨w.heap.size + 1 + 1, 1, none⟩ (.int .i64 (an + xn))).setCell ⟨w.heap.size + 1 + 1, 2, none⟩ (.slice none 0 0)).setCell ⟨w.heap.size + 1 + 1, 3, none⟩ (.slice none 0 0)) = wf at hf hcf ⊢
  have hf' : Blk wf.drew (w.heap.size + 1 + 1) 43 [.int .i64 3, .int .i64 (an + xn), .slice none 0 0, .slice none 0 0] := hf
  have p0 := hf'.cell 0
  have p1 := hf'.cell 1
  have p2 := hf'.cell 2
  have p3 := hf'.cell 3
  have hxf : Ext w wf.drew := (hcf.below (hx2.trans hb1) (hx2.trans hb1).size (by simp; omega)).drew
  refine bodyPost_ret (v := .tuple #[evA ⟨3, an + xn, [], []⟩ (.slice none 0 0) (.slice none 0 0), .bool (decide (an + xn ≤ 9999))]) ?_ rfl ⟨_, _, _, by rw [HCJ.out], fun _ => HJP.out.symm, hxf, .inr ⟨World.ownsRow_nil _ _ _ _, World.ownsRow_nil _ _ _ _⟩⟩
  rw [results_cell_tmp rfl]
  unfold evA
  go_simp

/-- What lies in the variable y. -/
def yG (B : Nat) (bs xs : List UInt8) (ms : List Int) (w : World) (cs : List Value) : Prop :=
  ∃ vb vm, cs = [.int .i64 1, .int .i64 0, vb, vm] ∧ w.ownsRow B 5 1 vb (bs.length + xs.length) (bytesV (bs ++ xs)) ∧ w.ownsRow B 3 1 vm ms.length (intsV ms)
theorem yG_len {B : Nat} {bs xs : List UInt8} {ms : List Int} {w : World} {cs : List Value} (h : yG B bs xs ms w cs) : cs.length = 4 := by obtain ⟨_, _, rfl, _⟩ := h; rfl
theorem yG_stable (B : Nat) (bs xs : List UInt8) (ms : List Int) (w w' : World) (cs : List Value) (h : yG B bs xs ms w cs) (hE : EG B 43 (yG B bs xs ms) w w') : yG B bs xs ms w' cs := by
  obtain ⟨vb, vm, h1, h2, h3⟩ := h
  exact ⟨vb, vm, h1, hE.own h2 (by decide), hE.own h3 (by decide)⟩
end Go.Proofs.Ytnbdmlpnoiljdaa
