/- The stream's Deliver that is taken. -/
import Derived.Test.YtnbdmlpnoiljdaaDoorStrm4
namespace Go.Proofs.YtnbdmlpnoiljdaaDoor
open Go Go.RowKit

theorem Ext.drew1 (w : World) : Ext w w.drew := (Below.refl _ _).drew
theorem or3 {x a p g : Nat} (h : x = 0 ∨ (x ≠ a + 1 ∧ x ≠ p + 1 ∧ x ≠ g + 1)) : x ≠ a + 1 ∧ x ≠ p + 1 ∧ x ≠ g + 1 := by omega
theorem or2 {x y z k : Nat} (h : x = 0 ∨ (x ≠ y ∧ x ≠ z)) (hk : x = k + 1) : y ≠ k + 1 ∧ z ≠ k + 1 := by omega
theorem or2l {x y z k : Nat} (h : x = 0 ∨ (x ≠ y ∧ x ≠ z)) (hk : y = k + 1) : x ≠ k + 1 := by omega
theorem or2r {x y z k : Nat} (h : x = 0 ∨ (x ≠ y ∧ x ≠ z)) (hk : z = k + 1) : x ≠ k + 1 := by omega
theorem or1 {x y k : Nat} (h : x = 0 ∨ x ≠ y) (hk : x = k + 1) : y ≠ k + 1 := by omega
theorem or1' {x y k : Nat} (h : x = 0 ∨ x ≠ y) (hk : y = k + 1) : x ≠ k + 1 := by omega
theorem new3 {x n a p g : Nat} (h : x = 0 ∨ n + 1 ≤ x) (h1 : a < n) (h2 : p < n) (h3 : g < n) : x = 0 ∨ (x ≠ a + 1 ∧ x ≠ p + 1 ∧ x ≠ g + 1) := by omega
theorem ob_len (A : Option Addr) (n c n' c' : Nat) : ob (.slice A n c) = ob (.slice A n' c') := by cases A <;> rfl
theorem not1 {k a : Nat} (h : k ≠ a) : k ∉ [a] := by simpa using h
theorem notO {k : Nat} {v : Value} (h : ob v ≠ k + 1) : k ∉ v.ownBlock.toList := fun hm => h (ob_list.1 hm)

/-- A mark is put down. -/
theorem StrmAt.push {w w1 w2 : World} {B : Nat} {m : Mem} {S : St} (h : StrmAt w B m S) (h1 : Ext w w1) {x : Int} {v' : Value} (ho : OwnO w2 B 3 v' (S.marks.length + 1) (intsV S.marks ++ [.int .i64 x]))
    (hc : Chg m.vm.ownBlock.toList w1 w2) (hob : ob v' = ob m.vm ∨ ob v' = w1.heap.size + 1) (hsz : S.marks.length + 1 ≤ 1000000) :
    StrmAt (w2.setCell ⟨m.a, 1, none⟩ v') B { m with vm := v' } { S with marks := S.marks ++ [x] } ∧ Chg m.Y w (w2.setCell ⟨m.a, 1, none⟩ v') := by
  obtain ⟨s1, s2, s3, s4, s5, s6, s7⟩ := h.sep
  have hsm := h.small
  have hb := (h.keep h1)
  have hsz1 := h1.size
  have l1 := (h.lt (k := m.a) (.inl rfl)).2
  have l2 := (h.lt (k := m.p) (.inr (.inl rfl))).2
  have l3 := (h.lt (k := m.g) (.inr (.inr (.inl rfl)))).2
  have o1 := h.inn.ob_lt
  have o3 := h.wire.ob_lt
  obtain ⟨v1, v2, v3⟩ := or3 s4
  have c2 : Chg [m.a] w2 (w2.setCell ⟨m.a, 1, none⟩ v') := (Chg.refl _ _).setCell (by simp) _
  have n3 : ob v' = 0 ∨ (ob v' ≠ m.a + 1 ∧ ob v' ≠ m.p + 1 ∧ ob v' ≠ m.g + 1) := by
    rcases hob with e | e
    · rw [e]; exact s4
    · exact new3 (n := w1.heap.size) (.inr (by rw [e]; exact Nat.le_refl _)) (Nat.lt_of_lt_of_le l1 hsz1) (Nat.lt_of_lt_of_le l2 hsz1) (Nat.lt_of_lt_of_le l3 hsz1)
  refine ⟨⟨?_, ?_, ?_, ?_, ?_, h.low, ⟨s1, s2, s3, n3, s5, ?_, ?_⟩, ?_⟩, ?_⟩
  · simpa using (hb.blk.chg hc (notO v1)).set_ 1 v'
  · exact (hb.ring.chg hc (notO v2) (notO v3)).chg c2 (not1 s1.symm) (not1 s2.symm)
  · exact (hb.inn.chg' hc fun k hk => notO (or2 s6 hk).1).chg' c2 fun k hk => not1 fun e => (or3 s3).1 (by rw [hk, e])
  · have hl : (S.marks ++ [x]).length = S.marks.length + 1 := by simp
    show OwnO _ B _ v' (S.marks ++ [x]).length (intsV (S.marks ++ [x]))
    rw [hl]
    have := ho.chg' c2 fun k hk => not1 fun e => (or3 n3).1 (by rw [hk, e])
    simpa [intsV] using this
  · exact (hb.wire.chg' hc fun k hk => notO (or1' s7 hk)).chg' c2 fun k hk => not1 fun e => (or3 s5).1 (by rw [hk, e])
  · show ob m.vi = 0 ∨ (ob m.vi ≠ ob v' ∧ ob m.vi ≠ ob m.vw)
    rcases hob with e | e
    · rw [e]; exact s6
    · clear s3 s4 s5 s7 o3 n3; omega
  · show ob v' = 0 ∨ ob v' ≠ ob m.vw
    rcases hob with e | e
    · rw [e]; exact s7
    · clear s3 s4 s5 s6 s7 o1 n3; omega
  · exact ⟨hsm.1, hsm.2.1, by simpa using hsz⟩
  · exact ((Chg.of_ext h1).trans (hc.mono fun k hk => Mem.mem_Y.2 (.inr (.inr (.inr (.inr (.inl (ob_list.1 hk)))))))).trans (c2.mono fun k hk => Mem.mem_Y.2 (.inl (by simpa using hk)))

def St.deliver (S : St) (b : List UInt8) (L : List Int) : St := { S with inn := S.inn ++ b, marks := S.marks ++ L.map fun x => (S.read : Int) + S.inn.length + x }
/-- S with the first k of the marks. -/
def St.marked (S : St) (L : List Int) (k : Nat) : St := { S with marks := S.marks ++ (L.take k).map fun x => (S.read : Int) + S.inn.length + x }

theorem marked_succ {S : St} {L : List Int} {k : Nat} {x : Int} (h : L[k]? = some x) : ({ S.marked L k with marks := (S.marked L k).marks ++ [(S.read : Int) + S.inn.length + x] } : St) = S.marked L (k + 1) := by
  have hk : k < L.length := (List.getElem?_eq_some_iff.1 h).1
  have hx : L[k] = x := by rw [List.getElem?_eq_getElem hk] at h; exact Option.some.inj h
  unfold St.marked
  rw [List.take_succ_eq_append_getElem hk, hx]
  simp
/-- The bytes are put down. -/
theorem StrmAt.take {w w1 : World} {B : Nat} {m : Mem} {S : St} (h : StrmAt w B m S) (h1 : Ext w w1) {b : List UInt8} {v' : Value} {n : Nat} (hn : n = (S.inn ++ b).length) (ho : w1.ownsRow w.heap.size 5 1 v' n (bytesV (S.inn ++ b)))
    (hsz : S.read + (S.inn.length + b.length) ≤ 1000000 ∧ S.inn.length + b.length ≤ 4096) :
    StrmAt (w1.setCell ⟨m.a, 0, none⟩ v') B { m with vi := v' } { S with inn := S.inn ++ b } ∧ Chg m.Y w (w1.setCell ⟨m.a, 0, none⟩ v') ∧ (ob v' = 0 ∨ w.heap.size + 1 ≤ ob v') := by
  subst hn
  obtain ⟨s1, s2, s3, s4, s5, s6, s7⟩ := h.sep
  have hsm := h.small
  have hb := h.keep h1
  have l0 := (h.lt (k := m.a) (.inl rfl)).1
  have l1 := (h.lt (k := m.a) (.inl rfl)).2
  have l2 := (h.lt (k := m.p) (.inr (.inl rfl))).2
  have l3 := (h.lt (k := m.g) (.inr (.inr (.inl rfl)))).2
  have o2 := h.mks.ob_lt
  have o3 := h.wire.ob_lt
  have ho' := OwnO.of_own (own_mono ho (show B ≤ w.heap.size from Nat.le_trans l0 (Nat.le_of_lt l1)))
  have o4 : ob v' = 0 ∨ w.heap.size + 1 ≤ ob v' := by
    rcases (OwnO.of_own ho).ob_lt with h | h
    · exact .inl h
    · exact .inr h.1
  have c2 : Chg [m.a] w1 (w1.setCell ⟨m.a, 0, none⟩ v') := (Chg.refl _ _).setCell (by simp) _
  have n3 := new3 o4 l1 l2 l3
  refine ⟨⟨?_, ?_, ?_, ?_, ?_, h.low, ⟨s1, s2, n3, s4, s5, ?_, s7⟩, ?_⟩, ?_, o4⟩
  · simpa using hb.blk.set_ 0 v'
  · exact hb.ring.chg c2 (not1 s1.symm) (not1 s2.symm)
  · exact ho'.chg' c2 fun k hk => not1 fun e => (or3 n3).1 (by rw [hk, e])
  · exact hb.mks.chg' c2 fun k hk => not1 fun e => (or3 s4).1 (by rw [hk, e])
  · exact hb.wire.chg' c2 fun k hk => not1 fun e => (or3 s5).1 (by rw [hk, e])
  · show ob v' = 0 ∨ (ob v' ≠ ob m.vm ∧ ob v' ≠ ob m.vw)
    clear s3 s4 s5 s6 s7 n3; omega
  · exact ⟨by simpa using hsz.1, by simpa using hsz.2, hsm.2.2⟩
  · exact (Chg.of_ext h1).trans (c2.mono fun k hk => Mem.mem_Y.2 (.inl (by simpa using hk)))

set_option maxHeartbeats 4000000 in
set_option maxRecDepth 20000 in
theorem strmDeliver {w : World} {B : Nat} {m : Mem} {S : St} (hS : StrmAt w B m S) (Ab Am : Option Addr) (nb cb nm cm : Nat) (b : List UInt8) (L : List Int) (hsz : S.read + (S.inn.length + nb) ≤ 1000000 ∧ S.inn.length + nb ≤ 4096) (hmz : S.marks.length + nm ≤ 1000000)
    (hr : Rd w 1 Am nm (intsV L)) (hrb : Rd w 1 Ab nb (bytesV b)) (hA : 0 < nb → ∀ k, ob (.slice Ab nb cb) = k + 1 → ¬ m.In k) (hA' : 0 < nm → ∀ k, ob (.slice Am nm cm) = k + 1 → ¬ m.In k) (hris : risA (-1) nb L = true) (hcl : S.closed = false) :
    Calls Tryd.prog 24 #[.pointer (some ⟨m.a, 0, none⟩), .slice Ab nb cb, .slice Am nm cm] w fun e w' => e = .returned .nilIface ∧ Turned w w' B m (S.deliver b L) := by
  have e3 : w.cell? ⟨m.a, 3, none⟩ = some (.bool S.closed) := hS.blk.cell 3
  rw [hcl] at e3
  obtain ⟨A, c, hv, _, _, _⟩ := hS.inn.rd
  have e0 : w.cell? ⟨m.a, 0, none⟩ = some m.vi := hS.blk.cell 0
  rw [hv] at e0
  have hsm := hS.small
  have hfull : ¬ ((4096 : Int) - S.inn.length < nb) := by omega
  have hll : L.length = nm := hr.len_ints
  have hbl : b.length = nb := hrb.len_bytes
  have HR := Lib.hid hris
  have HRD := Lib.hid hr
  have HRB := Lib.hid hrb
  have HV := Lib.hid hv
  have HLL := Lib.hid hll
  have HBL := Lib.hid hbl
  have hin : ∀ k, k < w.heap.size → ¬ m.In k → k ∉ m.Y := fun k _ hk hy => hk (Mem.mem_Y.1 hy)
  have hS0 : StrmAt w B { m with vm := m.vm } (S.marked L 0) := by
    have : S.marked L 0 = S := by unfold St.marked; simp
    rw [this]; exact hS
  have HS0 := Lib.hid hS0
  clear hris hr hrb hv hll hbl hcl hS0
  go_enter Tryd.func24, Tryd.ntmps24
  go_wp2_with (go_at_call 58; refine (strmRising L Am nm cm nb _ HRD.out (by omega) (by omega) true HR.out).mono ?_; rintro e w1 ⟨rfl, rfl⟩)
  clear e0 e3
  go_loopw [35] (fun i wr => ∃ (k : Nat) (vm' : Value), k ≤ nm ∧ i = .int .i64 k ∧ StrmAt wr B { m with vm := vm' } (S.marked L k) ∧ Chg m.Y w wr ∧ (ob vm' = ob m.vm ∨ w.heap.size < ob vm')) (fun i _ => nm - (intOf i).toNat)
  case atStart => exact ⟨0, m.vm, Nat.zero_le _, rfl, HS0.out, .refl _ _, .inl rfl⟩
  case round =>
    obtain ⟨k, vm', hk, rfl, hSk, hck, hvm⟩ := hrel
    have hs1 := hck.size
    by_cases hlt : k < nm
    · have hkL : k < L.length := by rw [HLL.out]; exact hlt
      obtain ⟨x, hx⟩ : ∃ x, L[k]? = some x := ⟨_, List.getElem?_eq_getElem hkL⟩
      have hxr := risA_mem HR.out x (List.mem_of_getElem? hx)
      obtain ⟨bm, om, rfl, hbm, hcm'⟩ := HRD.out.2 (by simp [intsV]; omega)
      have hcx : wr.cell? ⟨bm, om + k, none⟩ = some (.int .i64 x) := hck.cell (hcm' k _ (by simp [intsV, hx])) (hin _ hbm (hA' (by omega) bm rfl))
      have hml : (S.marked L k).marks.length = S.marks.length + k := by unfold St.marked; simp; omega
      obtain ⟨A1, c1, hvk, _, _, _⟩ := hSk.mks.rd
      subst hvk
      obtain ⟨nk, hnk⟩ : ∃ nk, (S.marked L k).marks.length = nk := ⟨_, rfl⟩
      have d0 : wr.cell? ⟨m.a, 0, none⟩ = some m.vi := hSk.blk.cell 0
      have d1 : wr.cell? ⟨m.a, 1, none⟩ = some (.slice A1 nk c1) := by rw [← hnk]; exact hSk.blk.cell 1
      have d2 : wr.cell? ⟨m.a, 2, none⟩ = some (.int .i64 S.read) := hSk.blk.cell 2
      have f1 : wr.frozen? ⟨m.a, 1, none⟩ = false := hSk.blk.frozen 1
      rw [HV.out] at d0
      have hBr : B ≤ wr.heap.size := by have := hSk.lt (k := m.a) (.inl rfl); omega
      have HX := Lib.hid hx
      have HML := Lib.hid hml
      have HNK := Lib.hid hnk
      have hx0 := hxr.1
      have hx1 := hxr.2
      clear hxr hx hml hcm' hnk
      go_wp2
      have va : ob (Value.slice A1 nk c1) ≠ m.a + 1 := by rw [← HNK.out]; exact (or3 hSk.sep.2.2.2.1).1
      have d1' : (wr.alloc (.cells #[.int .i64 ((S.read : Int) + S.inn.length + x)] 3)).cell? ⟨m.a, 1, none⟩ = some (.slice A1 nk c1) := by rw [← HNK.out]; exact (hSk.blk.keep (Ext.new1 wr _)).cell 1
      have hw1 : IntKind.i64.wrap ((S.read : Int) + S.inn.length) = (S.read : Int) + S.inn.length := wrap_id (by omega) (by omega)
      have hw2 : IntKind.i64.wrap ((S.read : Int) + S.inn.length + x) = (S.read : Int) + S.inn.length + x := wrap_id (by omega) (by omega)
      go_region_law (refine step_appO (base := B) (v := .slice A1 nk c1) (n := nk) (xs := intsV (S.marked L k).marks) Tryd.elemI rfl (.tmp 43) (.tmp 56) rfl rfl (by rw [← HNK.out]; exact (hSk.mks.keep (Ext.new1 _ _)).keep (Ext.drew1 _)) (by simp; omega) rfl (by first | exact (rd_one wr _ _).keep (Ext.drew1 _) | exact rd_one _ _ _) (one_one rfl) (by have := HML.out; have := HNK.out; omega) (by have := HML.out; have := HNK.out; unfold maxLen; omega) ?_; intro v2 w2 hown2 hc2 hob2; obtain ⟨A2, c2, rfl, _, _, _⟩ := hown2.rd; have hblk2 := ((hSk.blk.keep (Ext.new1 wr (.cells #[.int .i64 ((S.read : Int) + S.inn.length + x)] 3))).keep (Ext.drew1 _)).chg hc2 (notO va); have p1 := hblk2.cell 1; have q1 := hblk2.frozen 1; clear hblk2)
      all_goals
        clear d0 d1 d2 f1 p1 q1 d1'
        obtain ⟨hp, hpc⟩ := hSk.push (w1 := (wr.alloc (.cells #[.int .i64 ((S.read : Int) + S.inn.length + x)] 3)).drew) ((Ext.new1 _ _).trans (Ext.drew1 _)) (v' := .slice A2 (nk + 1) c2) (by rw [HNK.out]; exact hown2) (by rw [← HNK.out] at hc2; exact hc2) (by have := ob_at hob2; rwa [ob_len A1 nk c1 (S.marked L k).marks.length c1] at this) (by have := HML.out; omega)
        rw [marked_succ HX.out] at hp
        have HP := Lib.hid hp
        have hck2 := hck.more hpc (fun y hy => by
          have hy' := Mem.mem_Y.1 hy
          have : y = m.a ∨ y = m.p ∨ y = m.g ∨ ob m.vi = y + 1 ∨ ob (.slice A1 (S.marked L k).marks.length c1) = y + 1 ∨ ob m.vw = y + 1 := hy'
          rcases this with h | h | h | h | h | h
          · exact .inl (Mem.mem_Y.2 (.inl h))
          · exact .inl (Mem.mem_Y.2 (.inr (.inl h)))
          · exact .inl (Mem.mem_Y.2 (.inr (.inr (.inl h))))
          · exact .inl (Mem.mem_Y.2 (.inr (.inr (.inr (.inl h)))))
          · rcases hvm with e | e
            · exact .inl (Mem.mem_Y.2 (.inr (.inr (.inr (.inr (.inl (by rw [← e]; exact h)))))))
            · exact .inr (by omega)
          · exact .inl (Mem.mem_Y.2 (.inr (.inr (.inr (.inr (.inr h)))))))
        have hob3 : ob (.slice A2 (nk + 1) c2) = ob m.vm ∨ w.heap.size < ob (.slice A2 (nk + 1) c2) := by
          rcases ob_at hob2 with e | e
          · rw [e, ob_len A1 nk c1 (S.marked L k).marks.length c1]
            exact hvm
          · right
            have : (wr.alloc (.cells #[.int .i64 ((S.read : Int) + S.inn.length + x)] 3)).drew.heap.size = wr.heap.size + 1 := by simp
            omega
        clear hp hpc hob2 hc2 hown2
        go_wp2
        go_roundw
        case rel => exact ⟨k + 1, _, hlt, by go_num, HP.out, hck2, hob3⟩
        case measure => simp [intOf]; omega
    · obtain rfl : k = nm := by omega
      have hinn : Rd wr 1 A S.inn.length (bytesV S.inn) := by
        obtain ⟨A', c', e, _, _, h⟩ := hSk.inn.rd
        have e' := HV.out.symm.trans e
        cases e'
        exact h
      have hbb : Rd wr 1 Ab nb (bytesV b) := HRB.out.chg hck (fun hp b' o' v' e => by
        obtain ⟨b2, o2, e2, hlt2, _⟩ := HRB.out.2 hp
        rw [e2] at e
        cases e
        exact hin _ hlt2 (hA (by have := HRB.out.len_bytes; simp [bytesV] at hp; omega) _ (by rw [e2]; rfl)))
      have d0 : wr.cell? ⟨m.a, 0, none⟩ = some m.vi := hSk.blk.cell 0
      rw [HV.out] at d0
      have HI := Lib.hid hinn
      have HBB := Lib.hid hbb
      clear hinn hbb
      go_wp2_with (go_at_call 59; refine (concatB S.inn b A Ab S.inn.length c nb cb wr.heap.size 42 _ (by omega) (by omega) (Blk.newL wr _ _) (HI.out.keep (Ext.new1 _ _)) (HBB.out.keep (Ext.new1 _ _))).mono ?_; rintro e w1 ⟨v1, rfl, hown1, hb1⟩; obtain ⟨A3, c3, rfl, _, _, _⟩ := own_rd hown1; have hb2 : Ext wr w1 := (Ext.new1 wr _).trans hb1; have p0 := (hSk.blk.keep hb2).cell 0; have q0 := (hSk.blk.keep hb2).frozen 0)
      go_ret
      obtain ⟨hf, hfc, hob⟩ := hSk.take hb2 (b := b) (v' := .slice A3 (S.inn.length + nb) c3) (n := S.inn.length + nb) (by rw [← HBL.out]; exact (List.length_append).symm) (own_mono hown1 (by simp)) (by rw [HBL.out]; exact hsz)
      have hSd : ({ S.marked L k with inn := (S.marked L k).inn ++ b } : St) = S.deliver b L := by
        unfold St.marked St.deliver
        rw [List.take_of_length_le (by rw [HLL.out]; exact Nat.le_refl _)]
      rw [hSd] at hf
      have hmore : ∀ y ∈ ({ m with vm := vm' } : Mem).Y, y ∈ m.Y ∨ w.heap.size ≤ y := fun y hy => by
        have hy' := Mem.mem_Y.1 hy
        have : y = m.a ∨ y = m.p ∨ y = m.g ∨ ob m.vi = y + 1 ∨ ob vm' = y + 1 ∨ ob m.vw = y + 1 := hy'
        rcases this with h | h | h | h | h | h
        · exact .inl (Mem.mem_Y.2 (.inl h))
        · exact .inl (Mem.mem_Y.2 (.inr (.inl h)))
        · exact .inl (Mem.mem_Y.2 (.inr (.inr (.inl h))))
        · exact .inl (Mem.mem_Y.2 (.inr (.inr (.inr (.inl h)))))
        · rcases hvm with e | e
          · exact .inl (Mem.mem_Y.2 (.inr (.inr (.inr (.inr (.inl (by rw [← e]; exact h)))))))
          · exact .inr (by omega)
        · exact .inl (Mem.mem_Y.2 (.inr (.inr (.inr (.inr (.inr h))))))
      refine ⟨rfl, _, hf, rfl, rfl, hck.more hfc hmore, fun y hy => ?_⟩
      have : y = m.a ∨ y = m.p ∨ y = m.g ∨ ob (.slice A3 (S.inn.length + nb) c3) = y + 1 ∨ ob vm' = y + 1 ∨ ob m.vw = y + 1 := hy
      rcases this with h | h | h | h | h | h
      · exact .inl (.inl h)
      · exact .inl (.inr (.inl h))
      · exact .inl (.inr (.inr (.inl h)))
      · right; omega
      · rcases hvm with e | e
        · exact .inl (.inr (.inr (.inr (.inr (.inl (by rw [← e]; exact h))))))
        · exact .inr (by omega)
      · exact .inl (.inr (.inr (.inr (.inr (.inr h)))))
end Go.Proofs.YtnbdmlpnoiljdaaDoor
