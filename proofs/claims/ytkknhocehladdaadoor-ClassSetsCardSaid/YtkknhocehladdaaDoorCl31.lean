/- The law ClassSets: its region that makes two sets in any order (own invariant, XDagJ), and its walk. -/
import Derived.Test.YtkknhocehladdaaDoorCl24
import Derived.Test.YtkknhocehladdaaDoorCl16
import Derived.Test.YtkknhocehladdaaDoorCl30
import Derived.Test.YtkknhocehladdaaDoorDagJ
import Derived.Test.YtkknhocehladdaaDoorActOf
namespace Go.Proofs.YtkknhocehladdaaDoor
open Go Go.RowKit
attribute [local irreducible] wd

/-- Which of the two blocks have been made, and filled. -/
def J2 (B : Nat) (x y : Nat → Bool) (L : Array Bool) (a : Act) (w : World) : Prop :=
  (L[6]? = some true → L[4]? = some true) ∧ (L[7]? = some true → L[5]? = some true) ∧
  (L[4]? = some true → ∃ g, a.tmps[7]? = some (.pointer (some ⟨g, 0, none⟩)) ∧ B ≤ g ∧ BB w g (fun j => decide (L[6]? = some true) && x j)) ∧
  (L[5]? = some true → ∃ g, a.tmps[8]? = some (.pointer (some ⟨g, 0, none⟩)) ∧ B ≤ g ∧ BB w g (fun j => decide (L[7]? = some true) && y j)) ∧
  (L[4]? = some true → L[5]? = some true → a.tmps[7]? ≠ a.tmps[8]?)

theorem flag_other {L : Array Bool} {i k : Nat} (h : k ≠ i) : (L.setIfInBounds i true)[k]? = L[k]? := by
  rw [Array.getElem?_setIfInBounds]
  simp [Ne.symm h]
theorem flag_own {L : Array Bool} {i : Nat} (h : i < L.size) : (L.setIfInBounds i true)[i]? = some true := by
  rw [Array.getElem?_setIfInBounds]
  simp [h]
theorem put_other {a : Act} {d t : Nat} {v : Value} (h : t ≠ d) : (a.put (some d) v).tmps[t]? = a.tmps[t]? := by
  simp only [Act.put, Array.getElem?_setIfInBounds]
  simp [Ne.symm h]
theorem put_own {a : Act} {d : Nat} {v : Value} (h : d < a.tmps.size) : (a.put (some d) v).tmps[d]? = some v := by
  simp only [Act.put, Array.getElem?_setIfInBounds]
  simp [h]

section
variable {B : Nat} {x y : Nat → Bool} {L : Array Bool} {a : Act} {w w' : World}
theorem J2.easy (h : J2 B x y L a w) (hx : Ext w w') {i d : Nat} (v : Value) (hi : i < 4) (h7 : d ≠ 7) (h8 : d ≠ 8) : J2 B x y (L.setIfInBounds i true) (a.put (some d) v) w' := by
  obtain ⟨h1, h2, h3, h4, h5⟩ := h
  unfold J2
  rw [flag_other (k := 4) (by omega), flag_other (k := 5) (by omega), flag_other (k := 6) (by omega), flag_other (k := 7) (by omega), put_other (Ne.symm h7), put_other (Ne.symm h8)]
  refine ⟨h1, h2, fun hl => ?_, fun hl => ?_, h5⟩
  · obtain ⟨g, hg, hB, hb⟩ := h3 hl
    exact ⟨g, hg, hB, hb.keep hx⟩
  · obtain ⟨g, hg, hB, hb⟩ := h4 hl
    exact ⟨g, hg, hB, hb.keep hx⟩
theorem J2.new7 (h : J2 B x y L a w) (hL : L.size = 8) (ht : 8 < a.tmps.size) (hn : L[4]? = some false) (hB : B ≤ w.heap.size) :
    J2 B x y (L.setIfInBounds 4 true) (a.put (some 7) (.pointer (some ⟨w.heap.size, 0, none⟩))) (w.alloc (.cells Tryd.zeroCells28 28)) := by
  obtain ⟨h1, h2, h3, h4, h5⟩ := h
  have h6 : ¬ L[6]? = some true := fun e => by have := h1 e; rw [hn] at this; cases this
  unfold J2
  rw [flag_own (by omega), flag_other (k := 5) (by omega), flag_other (k := 6) (by omega), flag_other (k := 7) (by omega), put_own (by omega), put_other (t := 8) (by omega)]
  refine ⟨fun _ => rfl, h2, fun _ => ⟨_, rfl, hB, (BB.zero rfl).congr fun c _ => by simp [h6]⟩, fun hl => ?_, fun _ hl e => ?_⟩
  · obtain ⟨g, hg, hB, hb⟩ := h4 hl
    exact ⟨g, hg, hB, hb.alloc _⟩
  · obtain ⟨g, hg, _, hb⟩ := h4 hl
    have hlt := hb.lt
    rw [hg] at e
    simp only [Option.some.injEq, Value.pointer.injEq, Addr.mk.injEq, and_true] at e
    omega
theorem J2.new8 (h : J2 B x y L a w) (hL : L.size = 8) (ht : 8 < a.tmps.size) (hn : L[5]? = some false) (hB : B ≤ w.heap.size) :
    J2 B x y (L.setIfInBounds 5 true) (a.put (some 8) (.pointer (some ⟨w.heap.size, 0, none⟩))) (w.alloc (.cells Tryd.zeroCells28 28)) := by
  obtain ⟨h1, h2, h3, h4, h5⟩ := h
  have h6 : ¬ L[7]? = some true := fun e => by have := h2 e; rw [hn] at this; cases this
  unfold J2
  rw [flag_own (by omega), flag_other (k := 4) (by omega), flag_other (k := 6) (by omega), flag_other (k := 7) (by omega), put_own (by omega), put_other (t := 7) (by omega)]
  refine ⟨h1, fun _ => rfl, fun hl => ?_, fun _ => ⟨_, rfl, hB, (BB.zero rfl).congr fun c _ => by simp [h6]⟩, fun hl _ e => ?_⟩
  · obtain ⟨g, hg, hB, hb⟩ := h3 hl
    exact ⟨g, hg, hB, hb.alloc _⟩
  · obtain ⟨g, hg, _, hb⟩ := h3 hl
    have hlt := hb.lt
    rw [hg] at e
    simp only [Option.some.injEq, Value.pointer.injEq, Addr.mk.injEq, and_true] at e
    omega
theorem J2.fill7 (h : J2 B x y L a w) (hL : L.size = 8) (hy : L[4]? = some true) {g : Nat} (hg : a.tmps[7]? = some (.pointer (some ⟨g, 0, none⟩))) : J2 B x y (L.setIfInBounds 6 true) (a.put none undef) (w.setRow g (bcs x)) := by
  obtain ⟨h1, h2, h3, h4, h5⟩ := h
  unfold J2
  rw [flag_own (by omega), flag_other (k := 4) (by omega), flag_other (k := 5) (by omega), flag_other (k := 7) (by omega)]
  refine ⟨fun _ => hy, h2, fun _ => ?_, fun hl => ?_, h5⟩
  · obtain ⟨g', hg', hB, hb⟩ := h3 hy
    obtain rfl : g' = g := by rw [hg] at hg'; simpa using hg'.symm
    exact ⟨g', hg, hB, (hb.row x).congr fun c _ => by simp⟩
  · obtain ⟨g', hg', hB, hb⟩ := h4 hl
    refine ⟨g', hg', hB, hb.rowFar x fun e => ?_⟩
    subst e
    exact h5 hy hl (hg.trans hg'.symm)
theorem J2.fill8 (h : J2 B x y L a w) (hL : L.size = 8) (hy : L[5]? = some true) {g : Nat} (hg : a.tmps[8]? = some (.pointer (some ⟨g, 0, none⟩))) : J2 B x y (L.setIfInBounds 7 true) (a.put none undef) (w.setRow g (bcs y)) := by
  obtain ⟨h1, h2, h3, h4, h5⟩ := h
  unfold J2
  rw [flag_own (by omega), flag_other (k := 4) (by omega), flag_other (k := 5) (by omega), flag_other (k := 6) (by omega)]
  refine ⟨h1, fun _ => hy, fun hl => ?_, fun _ => ?_, h5⟩
  · obtain ⟨g', hg', hB, hb⟩ := h3 hl
    refine ⟨g', hg', hB, hb.rowFar y fun e => ?_⟩
    subst e
    exact h5 hl hy (hg'.trans hg.symm)
  · obtain ⟨g', hg', hB, hb⟩ := h4 hy
    obtain rfl : g' = g := by rw [hg] at hg'; simpa using hg'.symm
    exact ⟨g', hg, hB, (hb.row y).congr fun c _ => by simp⟩
end
theorem rowB {B : Nat} {w w' : World} (h : Below B w w') (g : Nat) (cs : Array Value) (hg : B ≤ g) : Below B w (w'.setRow g cs) :=
  ⟨h.os, h.tape, h.output, by rw [setRow_size]; exact h.size, fun k hk => (setRow_other w' g k cs (by omega)).trans (h.block k hk)⟩

/-- What stands in memory at any time of the law's last region. -/
structure SetsNow (p q : Nat → Bool) (c0 c1 ga gb gc gx gy : Nat) (w : World) : Prop where
  a : SB w ga p
  b : SB w gb q
  c : Blk w gc 25 [.int .u8 (c0 : Nat), .int .u8 (c1 : Nat)]
  x : BB w gx p
  y : BB w gy q
theorem SetsNow.keep {p q : Nat → Bool} {c0 c1 ga gb gc gx gy : Nat} {w w' : World} (h : SetsNow p q c0 c1 ga gb gc gx gy w) (hx : Ext w w') : SetsNow p q c0 c1 ga gb gc gx gy w' :=
  ⟨h.a.keep hx, h.b.keep hx, h.c.keep hx, h.x.keep hx, h.y.keep hx⟩
theorem SetsNow.looks {p q : Nat → Bool} {c0 c1 ga gb gc gx gy : Nat} {w : World} (h : SetsNow p q c0 c1 ga gb gc gx gy w) (h0 : c0 < 256) :
    (w.cell? ⟨ga, 0, none⟩ = some (.int .u64 (wd p 0 : Nat)) ∧ w.cell? ⟨ga, 1, none⟩ = some (.int .u64 (wd p 1 : Nat)) ∧ w.cell? ⟨ga, 2, none⟩ = some (.int .u64 (wd p 2 : Nat)) ∧ w.cell? ⟨ga, 3, none⟩ = some (.int .u64 (wd p 3 : Nat))) ∧
    (w.cell? ⟨gb, 0, none⟩ = some (.int .u64 (wd q 0 : Nat)) ∧ w.cell? ⟨gb, 1, none⟩ = some (.int .u64 (wd q 1 : Nat)) ∧ w.cell? ⟨gb, 2, none⟩ = some (.int .u64 (wd q 2 : Nat)) ∧ w.cell? ⟨gb, 3, none⟩ = some (.int .u64 (wd q 3 : Nat))) ∧
    w.cell? ⟨gc, 0, none⟩ = some (.int .u8 (c0 : Nat)) ∧ w.cell? ⟨gc, 1, none⟩ = some (.int .u8 (c1 : Nat)) ∧ w.cell? ⟨gx, c0, none⟩ = some (.bool (p c0)) :=
  ⟨h.a.cells, h.b.cells, Blk.cell h.c 0, Blk.cell h.c 1, h.x.cell h0⟩
theorem load_setG {w : World} {ops : Array Oper} {rest : List Oper} {o : Oper} {a : Act} {Q : Exit → Act → World → Prop} {j : Nat} {b : Bool} {d : Nat} (hgd : o.guard = some (j, b)) (hj : (ops[j]?).bind (·.dst) = some d) (hd : a.tmps[d]? = some (.bool b))
    (x : Operand) (ho : o.op = .load 28 x) {g : Nat} {p : Nat → Bool} (hx : a.eval x = .pointer (some ⟨g, 0, none⟩)) (hg : BB w g p) (h : wpList Tryd.prog ops Q rest (a.put o.dst (.agg (bcs p))) w) : wpList Tryd.prog ops Q (o :: rest) a w :=
  wpList_step fun K hK => by
    rw [if_pos (by simp [Region.wanted, hgd, yielded, hj, hd])]
    exact wp_load_row _ x ho g hx _ (bcs p) _ _ hg Tryd.underlying28 rfl (by rw [bcs_size]; exact set_size) (hK _ _ h)
theorem cnt_all : cnt (fun _ => true) 256 = 256 := by decide +kernel
theorem sameP_refl {p q : Nat → Bool} (h : ∀ c, c < 256 → p c = q c) : sameP p q = true := (sameP_iff p q).2 h

set_option maxHeartbeats 16000000 in
set_option maxRecDepth 20000 in
theorem lawSets (E : Nat → Addr) (p q : Nat → Bool) (c0 c1 : Nat) (h0 : c0 < 256) (h1 : c1 < 256) (w : World) (hE : ErrC [2, 4] w E) (hT : Tab w) :
    Calls Tryd.prog 3 #[sp p, sp q, .agg #[.int .u8 (c0 : Nat), .int .u8 (c1 : Nat)]] w fun e w' => e = .returned (.bool true) ∧ Ext w w' := by
  obtain ⟨ga, hga⟩ : ∃ ga, w.heap.size = ga := ⟨_, rfl⟩
  obtain ⟨w0, hw0⟩ : ∃ w0, ((w.alloc (.cells (mix (wd p) (wd p) 0).toArray 24)).alloc (.cells (mix (wd q) (wd q) 0).toArray 24)).alloc (.cells #[.int .u8 (c0 : Nat), .int .u8 (c1 : Nat)] 25) = w0 := ⟨_, rfl⟩
  have hA0 : SB w0 ga p := by rw [← hw0]; exact ((SB.new hga p).alloc _).alloc _
  have hB0 : SB w0 (ga + 1) q := by rw [← hw0]; exact (SB.new (by simp [hga]) q).alloc _
  have hC0 : Blk w0 (ga + 2) 25 [.int .u8 (c0 : Nat), .int .u8 (c1 : Nat)] := by rw [← hw0]; exact Blk.newA (by simp [hga]) _ _
  have hx0 : Ext w w0 := by rw [← hw0]; (first | exact Ext.refl _ | (unfold Ext; repeat (first | exact Below.refl _ _ | assumption | refine Below.alloc ?_ (by first | (simp; done) | (simp; omega) | omega) _ | refine Below.setCell ?_ (by first | (simp; done) | (simp; omega) | omega) _ | refine Below.drew ?_)))
  have hE0 := hE.keep hx0
  have hT0 := hT.keep hx0
  have HA := Lib.hid hA0
  have HB := Lib.hid hB0
  have HC := Lib.hid hC0
  have HE := Lib.hid hE0
  have HT := Lib.hid hT0
  have HW0 := Lib.hid hw0
  clear hA0 hB0 hC0 hE0 hT0 hE hT hw0
  have h0' : (c0 : Int) < 256 := by omega
  unfold sp
  go_enter Tryd.func3, Tryd.ntmps3
  go_wp2_with fail
  rw [show ((w.alloc (.cells #[.int .u64 (wd p 0 : Nat), .int .u64 (wd p 1 : Nat), .int .u64 (wd p 2 : Nat), .int .u64 (wd p 3 : Nat)] 24)).alloc (.cells #[.int .u64 (wd q 0 : Nat), .int .u64 (wd q 1 : Nat), .int .u64 (wd q 2 : Nat), .int .u64 (wd q 3 : Nat)] 24)).alloc (.cells #[.int .u8 (c0 : Nat), .int .u8 (c1 : Nat)] 25) = w0 from HW0.out]
  go_wp2_with (go_at_call 6; refine (alive22 E _ HE.out HT.out).mono ?_; rintro e w1 ⟨rfl, hx1⟩)
  have hA1 := HA.out.keep hx1
  have hB1 := HB.out.keep hx1
  have hC1 := HC.out.keep hx1
  have hla := hA1.lt
  have hlb := hB1.lt
  have hlc := hC1.lt
  have hTk := HT.out.keep hx1
  have hxw := hx0.trans hx1
  clear HA HB HC HE HT HW0 hx0 hx1
  rw [show ga + 2 = ga + 1 + 1 from rfl] at hC1 hlc
  generalize ga + 1 + 1 = gc at *
  generalize ga + 1 = gb at *
  generalize w1 = wk at *
  refine wp_region_dagJ (E := fun w w' => Below wk.heap.size w w') (J := J2 wk.heap.size p q) (w0 := wk) (Φ := fun i v _ => match i with | 0 => v = sp p | 1 => v = bp p | 2 => v = sp q | 3 => v = bp q | _ => True) (show Tryd.prog.follows .mixedOrders = true from Checked.mixed Tryd.checked) 89 rfl (by decide +kernel) ?_ ?_ ((Below.refl _ _).drew) ?_ ⟨?_, ?_, ?_, ?_, ?_, ?_, ?_, ?_, trivial⟩ ?_
  · intro i v w w' h _
    exact h
  · have hno : ∀ k, ¬ (Array.replicate 8 false)[k]? = some true := fun k h => by rw [Array.getElem?_replicate] at h; split at h <;> cases h
    exact ⟨fun h => absurd h (hno _), fun h => absurd h (hno _), fun h => absurd h (hno _), fun h => absurd h (hno _), fun h => absurd h (hno _)⟩
  · exact fun w w' h h' => h.trans h'
  · -- 0
    intro L ac wx hE hJ hL hn hh hsz hdf h
    have e3 : ac.tmps[3]? = some (.pointer (some ⟨ga, 0, none⟩)) := by obtain ⟨v, h1, h2⟩ := h 3 (by decide +kernel); exact h1.trans (h2.symm.trans rfl)
    obtain ⟨y0, y1, y2, y3⟩ := (SB.below hA1 hE hla).cells
    clear h hsz hdf hh hn hL
    go_wp2
    exact ⟨_, rfl, rfl, Below.refl _ _, hJ.easy (Ext.refl _) _ (by omega) (by decide) (by decide)⟩
  · -- 1
    intro L ac wx hE hJ hL hn hh hsz hdf h
    have e12 : ac.tmps[12]? = some (sp p) := by obtain ⟨v, h1, h2⟩ := h 12 (by decide +kernel); rw [h1]; exact congrArg some h2
    clear h hsz hdf hh hn hL
    go_wp2_with (go_at_call 7; refine (refOf p _).mono ?_; rintro e w9 ⟨rfl, hb9⟩)
    exact ⟨_, rfl, rfl, Below.mono hb9 hE.size, hJ.easy hb9 _ (by omega) (by decide) (by decide)⟩
  · -- 2
    intro L ac wx hE hJ hL hn hh hsz hdf h
    have e4 : ac.tmps[4]? = some (.pointer (some ⟨gb, 0, none⟩)) := by obtain ⟨v, h1, h2⟩ := h 4 (by decide +kernel); exact h1.trans (h2.symm.trans rfl)
    obtain ⟨y0, y1, y2, y3⟩ := (SB.below hB1 hE hlb).cells
    clear h hsz hdf hh hn hL
    go_wp2
    exact ⟨_, rfl, rfl, Below.refl _ _, hJ.easy (Ext.refl _) _ (by omega) (by decide) (by decide)⟩
  · -- 3
    intro L ac wx hE hJ hL hn hh hsz hdf h
    have e14 : ac.tmps[14]? = some (sp q) := by obtain ⟨v, h1, h2⟩ := h 14 (by decide +kernel); rw [h1]; exact congrArg some h2
    clear h hsz hdf hh hn hL
    go_wp2_with (go_at_call 7; refine (refOf q _).mono ?_; rintro e w9 ⟨rfl, hb9⟩)
    exact ⟨_, rfl, rfl, Below.mono hb9 hE.size, hJ.easy hb9 _ (by omega) (by decide) (by decide)⟩
  · -- 4
    intro L ac wx hE hJ hL hn hh hsz hdf h
    have hk := hJ.new7 hL (by rw [hsz]; exact (by decide : 8 < 89)) hn hE.size
    clear h hsz hdf hh hn hL
    go_wp2
    exact ⟨_, rfl, trivial, (Below.refl _ _).alloc hE.size _, hk⟩
  · -- 5
    intro L ac wx hE hJ hL hn hh hsz hdf h
    have hk := hJ.new8 hL (by rw [hsz]; exact (by decide : 8 < 89)) hn hE.size
    clear h hsz hdf hh hn hL
    go_wp2
    exact ⟨_, rfl, trivial, (Below.refl _ _).alloc hE.size _, hk⟩
  · -- 6
    intro L ac wx hE hJ hL hn hh hsz hdf h
    have e13 : ac.tmps[13]? = some (.agg (bcs p)) := by obtain ⟨v, h1, h2⟩ := h 13 (by decide +kernel); rw [h1]; exact congrArg some h2
    have hy := hh 4 (by decide +kernel)
    obtain ⟨g, hg, hBg, hb⟩ := hJ.2.2.1 hy
    have hk := hJ.fill7 hL hy hg
    clear h hsz hdf hh hn hL hJ
    refine store_set rfl (.tmp 7) (.tmp 13) rfl (g := g) (q := p) ?_ ?_ hb ?_
    · simp [Act.eval, hg]
    · simp [Act.eval, e13]
    · go_wp2
      exact ⟨undef, rfl, trivial, rowB (Below.refl _ _) _ _ hBg, hk⟩
  · -- 7
    intro L ac wx hE hJ hL hn hh hsz hdf h
    have e15 : ac.tmps[15]? = some (.agg (bcs q)) := by obtain ⟨v, h1, h2⟩ := h 15 (by decide +kernel); rw [h1]; exact congrArg some h2
    have hy := hh 5 (by decide +kernel)
    obtain ⟨g, hg, hBg, hb⟩ := hJ.2.2.2.1 hy
    have hk := hJ.fill8 hL hy hg
    clear h hsz hdf hh hn hL hJ
    refine store_set rfl (.tmp 8) (.tmp 15) rfl (g := g) (q := q) ?_ ?_ hb ?_
    · simp [Act.eval, hg]
    · simp [Act.eval, e15]
    · go_wp2
      exact ⟨undef, rfl, trivial, rowB (Below.refl _ _) _ _ hBg, hk⟩
  · intro L ac w9 hJ hL hE hsz hdf h hrest
    have h3 := hJ.2.2.1
    have h4 := hJ.2.2.2.1
    clear hJ
    obtain ⟨gx, hgx, hBx, hbx⟩ := h3 (hL 4 (by decide))
    obtain ⟨gy, hgy, hBy, hby⟩ := h4 (hL 5 (by decide))
    have hbx' : BB w9 gx p := hbx.congr (fun c _ => by simp [hL 6 (by decide)])
    have hby' : BB w9 gy q := hby.congr (fun c _ => by simp [hL 7 (by decide)])
    obtain ⟨v0, s0, g0⟩ := h 0 _ rfl
    have e0 := g0 12 rfl
    obtain rfl : v0 = sp p := s0
    obtain ⟨v1, s1, g1⟩ := h 1 _ rfl
    have e1 := g1 13 rfl
    obtain rfl : v1 = bp p := s1
    obtain ⟨v2, s2, g2⟩ := h 2 _ rfl
    have e2 := g2 14 rfl
    obtain rfl : v2 = sp q := s2
    obtain ⟨v3, s3, g3⟩ := h 3 _ rfl
    have e3 := g3 15 rfl
    obtain rfl : v3 = bp q := s3
    have ha := act_of [(12, sp p), (13, bp p), (14, sp q), (15, bp q), (7, .pointer (some ⟨gx, 0, none⟩)), (8, .pointer (some ⟨gy, 0, none⟩))] rfl hsz hdf (by intro p hp; simp only [List.mem_cons, List.not_mem_nil, or_false] at hp; rcases hp with rfl | rfl | rfl | rfl | rfl | rfl <;> first | exact e0 | exact e1 | exact e2 | exact e3 | exact hgx | exact hgy) hrest
    have HN : Hid (SetsNow p q c0 c1 ga gb gc gx gy w9) := Lib.hid ⟨SB.below hA1 hE hla, SB.below hB1 hE hlb, Blk.below hC1 hE hlc, hbx', hby'⟩
    have HX : Hid (Ext w w9) := Lib.hid (Ext.trans hxw hE)
    have HT : Hid (Tab w9) := Lib.hid (hTk.keep hE)
    clear h hrest hsz hdf e0 e1 e2 e3 g0 g1 g2 g3 hgx hgy h3 h4 hbx hby hBx hBy hbx' hby' hL
    clear hTk hA1 hB1 hC1 hla hlb hlc hE hxw
    subst ha
    simp only [List.foldl_cons, List.foldl_nil, Act.put, List.setIfInBounds_toArray, List.set_cons_succ, List.set_cons_zero]
    obtain ⟨⟨y0, y1, y2, y3⟩, ⟨z0, z1, z2, z3⟩, d0, d1, dx⟩ := HN.out.looks h0
    go_wp2_with (first
      | (refine store_set rfl (.tmp 9) (.tmp 22) rfl (g := w1.heap.size) rfl rfl (BB.zero rfl) ?_; have HO : Hid (BB ((w1.alloc (.cells Tryd.zeroCells28 28)).setRow w1.heap.size (bcs (isM c0))) w1.heap.size (isM c0)) := Lib.hid (made w1 (isM c0)).1; have hxs := (made w1 (isM c0)).2; generalize (w1.alloc (.cells Tryd.zeroCells28 28)).setRow w1.heap.size (bcs (isM c0)) = ws at *; generalize w1.heap.size = go at *; have HN := Lib.hid (HN.out.keep hxs); have HX := Lib.hid (Ext.trans HX.out hxs); have HT := Lib.hid (HT.out.keep hxs); clear y0 y1 y2 y3 z0 z1 z2 z3 d0 d1 dx; obtain ⟨⟨y0, y1, y2, y3⟩, ⟨z0, z1, z2, z3⟩, d0, d1, dx⟩ := HN.out.looks h0)
      | (go_at_call 8; refine (refFromS c0 c0 (isM c0) h0 h0 (fun c _ => by unfold isM; rw [Bool.eq_iff_iff]; simp only [Bool.and_eq_true, decide_eq_true_eq, beq_iff_eq]; omega) _).mono ?_; rintro e w1 ⟨rfl, hx1⟩; unfold bp; have HN := Lib.hid (HN.out.keep hx1); have HX := Lib.hid (Ext.trans HX.out hx1); have HT := Lib.hid (HT.out.keep hx1); clear y0 y1 y2 y3 z0 z1 z2 z3 d0 d1 dx; obtain ⟨⟨y0, y1, y2, y3⟩, ⟨z0, z1, z2, z3⟩, d0, d1, dx⟩ := HN.out.looks h0))
    have h1' : (c1 : Int) < 256 := by omega
    clear y0 y1 y2 y3 z0 z1 z2 z3 d0 d1 dx
    -- DAG ClSets5
    refine wp_region_dag (E := Ext) (w0 := ws) (Φ := fun i v w => match i with | 0 => (v = sp p) | 1 => (v = .pointer (some ⟨gc, 0, none⟩)) | 2 => (v = .int .u8 c0) | 3 => (v = .bool (p c0)) | 4 => (v = .pointer (some ⟨gc, 0, none⟩)) | 5 => (v = .int .u8 c0) | 6 => (v = .pointer (some ⟨gx, c0, none⟩)) | 7 => (v = .bool (p c0)) | 8 => (v = .bool true) | 9 => (v = .bool true) | 10 => (v = sp p) | 11 => (v = sp q) | 12 => (v = sp (fun j => p j || q j)) | 13 => (v = bp (p)) | 14 => (v = bp (q)) | 15 => (v = bp (fun j => p j || q j)) | 16 => (v = .bool true) | 17 => (v = .bool true) | 18 => (v = .bool true) | 19 => (v = sp p) | 20 => (v = sp (fun j => !p j)) | 21 => (v = bp (p)) | 22 => (v = bp (fun j => !p j)) | 23 => (v = .bool true) | 24 => (v = .bool true) | 25 => (v = .bool true) | 26 => (v = sp p) | 27 => (v = .int .i64 (cnt p 256 : Nat)) | 28 => (v = bp (p)) | 29 => (v = .int .i64 (cnt p 256 : Nat)) | 30 => (v = .bool true) | 31 => (v = .bool true) | 32 => (v = .bool true) | 33 => (v = sp p) | 34 => (v = .string ⟨(textT p).toArray⟩) | 35 => (v = bp (p)) | 36 => (v = .string ⟨(textT p).toArray⟩) | 37 => (v = .bool true) | 38 => (v = .bool true) | 39 => (v = .bool true) | 40 => (v = .pointer (some ⟨gc, 0, none⟩)) | 41 => (v = .int .u8 c0) | 42 => (v = sp (isM c0)) | 43 => (v = bp (isM c0)) | 44 => (v = .bool true) | 45 => (v = .bool true) | 46 => (v = .bool true) | 47 => (v = .pointer (some ⟨gc, 0, none⟩)) | 48 => (v = .int .u8 c0) | 49 => (v = .pointer (some ⟨gc, 1, none⟩)) | 50 => (v = .int .u8 c1) | 51 => (v = sp (fun j => decide (c0 ≤ j) && decide (j ≤ c1))) | 52 => (v = .pointer (some ⟨gc, 0, none⟩)) | 53 => (v = .int .u8 c0) | 54 => (v = .int .i64 c0) | 55 => (v = .pointer (some ⟨gc, 1, none⟩)) | 56 => (v = .int .u8 c1) | 57 => (v = .int .i64 c1) | 58 => (v = bp (fun j => decide (c0 ≤ j) && decide (j ≤ c1))) | 59 => (v = .bool true) | 60 => (v = .bool true) | 61 => (v = .bool true) | 62 => (v = sp (fun _ => true)) | 63 => (v = .int .i64 256) | 64 => (v = .bool true) | 65 => (v = .bool true) | 66 => (v = .bool true) | _ => True) (show Tryd.prog.follows .mixedOrders = true from Checked.mixed Tryd.checked) 89 rfl (by decide +kernel) ?_ ((Below.refl _ _).drew) ?_ ⟨?_, ?_, ?_, ?_, ?_, ?_, ?_, ?_, ?_, ?_, ?_, ?_, ?_, ?_, ?_, ?_, ?_, ?_, ?_, ?_, ?_, ?_, ?_, ?_, ?_, ?_, ?_, ?_, ?_, ?_, ?_, ?_, ?_, ?_, ?_, ?_, ?_, ?_, ?_, ?_, ?_, ?_, ?_, ?_, ?_, ?_, ?_, ?_, ?_, ?_, ?_, ?_, ?_, ?_, ?_, ?_, ?_, ?_, ?_, ?_, ?_, ?_, ?_, ?_, ?_, ?_, ?_, trivial⟩ ?_
    · intro i v w w' h hE
      match i, h with
      | 0, h => exact h
      | 1, h => exact h
      | 2, h => exact h
      | 3, h => exact h
      | 4, h => exact h
      | 5, h => exact h
      | 6, h => exact h
      | 7, h => exact h
      | 8, h => exact h
      | 9, h => exact h
      | 10, h => exact h
      | 11, h => exact h
      | 12, h => exact h
      | 13, h => exact h
      | 14, h => exact h
      | 15, h => exact h
      | 16, h => exact h
      | 17, h => exact h
      | 18, h => exact h
      | 19, h => exact h
      | 20, h => exact h
      | 21, h => exact h
      | 22, h => exact h
      | 23, h => exact h
      | 24, h => exact h
      | 25, h => exact h
      | 26, h => exact h
      | 27, h => exact h
      | 28, h => exact h
      | 29, h => exact h
      | 30, h => exact h
      | 31, h => exact h
      | 32, h => exact h
      | 33, h => exact h
      | 34, h => exact h
      | 35, h => exact h
      | 36, h => exact h
      | 37, h => exact h
      | 38, h => exact h
      | 39, h => exact h
      | 40, h => exact h
      | 41, h => exact h
      | 42, h => exact h
      | 43, h => exact h
      | 44, h => exact h
      | 45, h => exact h
      | 46, h => exact h
      | 47, h => exact h
      | 48, h => exact h
      | 49, h => exact h
      | 50, h => exact h
      | 51, h => exact h
      | 52, h => exact h
      | 53, h => exact h
      | 54, h => exact h
      | 55, h => exact h
      | 56, h => exact h
      | 57, h => exact h
      | 58, h => exact h
      | 59, h => exact h
      | 60, h => exact h
      | 61, h => exact h
      | 62, h => exact h
      | 63, h => exact h
      | 64, h => exact h
      | 65, h => exact h
      | 66, h => exact h
      | _ + 67, _ => trivial
    · exact fun w w' h h' => h.trans h'
    · -- 0: t23 := load 24 t3 
      intro ac wx hE hsz hdf h
      have e3 : ac.tmps[3]? = some (.pointer (some ⟨ga, 0, none⟩)) := by obtain ⟨v, h1, h2⟩ := h 3 (by decide +kernel); exact h1.trans (h2.symm.trans rfl)
      clear h hsz hdf
      obtain ⟨⟨y0, y1, y2, y3⟩, ⟨z0, z1, z2, z3⟩, d0, d1, dx⟩ := (HN.out.keep hE).looks h0
      go_wp2
      exact ⟨_, rfl, (by first | rfl | simp), Ext.refl _⟩
    · -- 1: t24 := indexAddr 25 t5 (const (0:i64)) 
      intro ac wx hE hsz hdf h
      have e5 : ac.tmps[5]? = some (.pointer (some ⟨gc, 0, none⟩)) := by obtain ⟨v, h1, h2⟩ := h 5 (by decide +kernel); exact h1.trans (h2.symm.trans rfl)
      clear h hsz hdf
      go_wp2
      exact ⟨_, rfl, (by first | rfl | simp), Ext.refl _⟩
    · -- 2: t25 := load 5 t24 
      intro ac wx hE hsz hdf h
      have e24 : ac.tmps[24]? = some (.pointer (some ⟨gc, 0, none⟩)) := by obtain ⟨v, h1, h2⟩ := h 24 (by decide +kernel); rw [h1]; exact congrArg some h2
      clear h hsz hdf
      obtain ⟨⟨y0, y1, y2, y3⟩, ⟨z0, z1, z2, z3⟩, d0, d1, dx⟩ := (HN.out.keep hE).looks h0
      go_wp2
      exact ⟨_, rfl, (by first | rfl | simp), Ext.refl _⟩
    · -- 3: t26 := call { value (Operand.func 9), args := #[t23, t25], argTypes := #[24, 5] } 
      intro ac wx hE hsz hdf h
      have e23 : ac.tmps[23]? = some (sp p) := by obtain ⟨v, h1, h2⟩ := h 23 (by decide +kernel); rw [h1]; exact congrArg some h2
      have e25 : ac.tmps[25]? = some (.int .u8 c0) := by obtain ⟨v, h1, h2⟩ := h 25 (by decide +kernel); rw [h1]; exact congrArg some h2
      clear h hsz hdf
      go_wp2_with ((go_at_call 9; refine (setHas p c0 h0 _).mono ?_; rintro e w9 ⟨rfl, hb9⟩))
      exact ⟨_, rfl, (by first | rfl | simp), hb9⟩
    · -- 4: t27 := indexAddr 25 t5 (const (0:i64)) 
      intro ac wx hE hsz hdf h
      have e5 : ac.tmps[5]? = some (.pointer (some ⟨gc, 0, none⟩)) := by obtain ⟨v, h1, h2⟩ := h 5 (by decide +kernel); exact h1.trans (h2.symm.trans rfl)
      clear h hsz hdf
      go_wp2
      exact ⟨_, rfl, (by first | rfl | simp), Ext.refl _⟩
    · -- 5: t28 := load 5 t27 
      intro ac wx hE hsz hdf h
      have e27 : ac.tmps[27]? = some (.pointer (some ⟨gc, 0, none⟩)) := by obtain ⟨v, h1, h2⟩ := h 27 (by decide +kernel); rw [h1]; exact congrArg some h2
      clear h hsz hdf
      obtain ⟨⟨y0, y1, y2, y3⟩, ⟨z0, z1, z2, z3⟩, d0, d1, dx⟩ := (HN.out.keep hE).looks h0
      go_wp2
      exact ⟨_, rfl, (by first | rfl | simp), Ext.refl _⟩
    · -- 6: t29 := indexAddr 28 t7 t28 
      intro ac wx hE hsz hdf h
      have e7 : ac.tmps[7]? = some (.pointer (some ⟨gx, 0, none⟩)) := by obtain ⟨v, h1, h2⟩ := h 7 (by decide +kernel); exact h1.trans (h2.symm.trans rfl)
      have e28 : ac.tmps[28]? = some (.int .u8 c0) := by obtain ⟨v, h1, h2⟩ := h 28 (by decide +kernel); rw [h1]; exact congrArg some h2
      clear h hsz hdf
      go_wp2
      exact ⟨_, rfl, (by first | rfl | simp), Ext.refl _⟩
    · -- 7: t30 := load 4 t29 
      intro ac wx hE hsz hdf h
      have e29 : ac.tmps[29]? = some (.pointer (some ⟨gx, c0, none⟩)) := by obtain ⟨v, h1, h2⟩ := h 29 (by decide +kernel); rw [h1]; exact congrArg some h2
      clear h hsz hdf
      obtain ⟨⟨y0, y1, y2, y3⟩, ⟨z0, z1, z2, z3⟩, d0, d1, dx⟩ := (HN.out.keep hE).looks h0
      go_wp2
      exact ⟨_, rfl, (by first | rfl | simp), Ext.refl _⟩
    · -- 8: t31 := binOp BinOp.eql 4 t26 t30 4 
      intro ac wx hE hsz hdf h
      have e26 : ac.tmps[26]? = some (.bool (p c0)) := by obtain ⟨v, h1, h2⟩ := h 26 (by decide +kernel); rw [h1]; exact congrArg some h2
      have e30 : ac.tmps[30]? = some (.bool (p c0)) := by obtain ⟨v, h1, h2⟩ := h 30 (by decide +kernel); rw [h1]; exact congrArg some h2
      clear h hsz hdf
      go_wp2
      exact ⟨_, rfl, (by first | rfl | simp), Ext.refl _⟩
    · -- 9: t32 := move t31 
      intro ac wx hE hsz hdf h
      have e31 : ac.tmps[31]? = some (.bool true) := by obtain ⟨v, h1, h2⟩ := h 31 (by decide +kernel); rw [h1]; exact congrArg some h2
      clear h hsz hdf
      go_wp2
      exact ⟨_, rfl, rfl, Ext.refl _⟩
    · -- 10: t33 := load 24 t3 (9, True)
      intro ac wx hE hsz hdf h
      have e3 : ac.tmps[3]? = some (.pointer (some ⟨ga, 0, none⟩)) := by obtain ⟨v, h1, h2⟩ := h 3 (by decide +kernel); exact h1.trans (h2.symm.trans rfl)
      have e32 : ac.tmps[32]? = some (.bool true) := by obtain ⟨v, h1, h2⟩ := h 32 (by decide +kernel); rw [h1]; exact congrArg some h2
      clear h hsz hdf
      obtain ⟨⟨y0, y1, y2, y3⟩, ⟨z0, z1, z2, z3⟩, d0, d1, dx⟩ := (HN.out.keep hE).looks h0
      go_wp2
      exact ⟨_, rfl, (by first | rfl | simp), Ext.refl _⟩
    · -- 11: t34 := load 24 t4 (9, True)
      intro ac wx hE hsz hdf h
      have e4 : ac.tmps[4]? = some (.pointer (some ⟨gb, 0, none⟩)) := by obtain ⟨v, h1, h2⟩ := h 4 (by decide +kernel); exact h1.trans (h2.symm.trans rfl)
      have e32 : ac.tmps[32]? = some (.bool true) := by obtain ⟨v, h1, h2⟩ := h 32 (by decide +kernel); rw [h1]; exact congrArg some h2
      clear h hsz hdf
      obtain ⟨⟨y0, y1, y2, y3⟩, ⟨z0, z1, z2, z3⟩, d0, d1, dx⟩ := (HN.out.keep hE).looks h0
      go_wp2
      exact ⟨_, rfl, (by first | rfl | simp), Ext.refl _⟩
    · -- 12: t35 := call { value (Operand.func 11), args := #[t33, t34], argTypes := #[24, 24] } (9, True)
      intro ac wx hE hsz hdf h
      have e33 : ac.tmps[33]? = some (sp p) := by obtain ⟨v, h1, h2⟩ := h 33 (by decide +kernel); rw [h1]; exact congrArg some h2
      have e34 : ac.tmps[34]? = some (sp q) := by obtain ⟨v, h1, h2⟩ := h 34 (by decide +kernel); rw [h1]; exact congrArg some h2
      have e32 : ac.tmps[32]? = some (.bool true) := by obtain ⟨v, h1, h2⟩ := h 32 (by decide +kernel); rw [h1]; exact congrArg some h2
      clear h hsz hdf
      go_wp2_with ((go_at_call 11; refine (setOr p q _).mono ?_; rintro e w9 ⟨rfl, hb9⟩))
      exact ⟨_, rfl, (by first | rfl | simp), hb9⟩
    · -- 13: t36 := load 28 t7 (9, True)
      intro ac wx hE hsz hdf h
      have e7 : ac.tmps[7]? = some (.pointer (some ⟨gx, 0, none⟩)) := by obtain ⟨v, h1, h2⟩ := h 7 (by decide +kernel); exact h1.trans (h2.symm.trans rfl)
      have e32 : ac.tmps[32]? = some (.bool true) := by obtain ⟨v, h1, h2⟩ := h 32 (by decide +kernel); rw [h1]; exact congrArg some h2
      clear h hsz hdf
      refine load_setG (j := 9) (b := true) (d := 32) rfl rfl e32 (.tmp 7) rfl (g := gx) ?_ (HN.out.x.keep hE) ?_
      · simp [Act.eval, e7]
      · go_wp2; exact ⟨_, rfl, rfl, Ext.refl _⟩
    · -- 14: t37 := load 28 t8 (9, True)
      intro ac wx hE hsz hdf h
      have e8 : ac.tmps[8]? = some (.pointer (some ⟨gy, 0, none⟩)) := by obtain ⟨v, h1, h2⟩ := h 8 (by decide +kernel); exact h1.trans (h2.symm.trans rfl)
      have e32 : ac.tmps[32]? = some (.bool true) := by obtain ⟨v, h1, h2⟩ := h 32 (by decide +kernel); rw [h1]; exact congrArg some h2
      clear h hsz hdf
      refine load_setG (j := 9) (b := true) (d := 32) rfl rfl e32 (.tmp 8) rfl (g := gy) ?_ (HN.out.y.keep hE) ?_
      · simp [Act.eval, e8]
      · go_wp2; exact ⟨_, rfl, rfl, Ext.refl _⟩
    · -- 15: t38 := call { value (Operand.func 12), args := #[t36, t37], argTypes := #[28, 28] } (9, True)
      intro ac wx hE hsz hdf h
      have e36 : ac.tmps[36]? = some (bp (p)) := by obtain ⟨v, h1, h2⟩ := h 36 (by decide +kernel); rw [h1]; exact congrArg some h2
      have e37 : ac.tmps[37]? = some (bp (q)) := by obtain ⟨v, h1, h2⟩ := h 37 (by decide +kernel); rw [h1]; exact congrArg some h2
      have e32 : ac.tmps[32]? = some (.bool true) := by obtain ⟨v, h1, h2⟩ := h 32 (by decide +kernel); rw [h1]; exact congrArg some h2
      clear h hsz hdf
      go_wp2_with ((go_at_call 12; refine (refOr p q _).mono ?_; rintro e w9 ⟨rfl, hb9⟩))
      exact ⟨_, rfl, (by first | rfl | simp), hb9⟩
    · -- 16: t39 := call { value (Operand.func 10), args := #[t35, t38], argTypes := #[24, 28] } (9, True)
      intro ac wx hE hsz hdf h
      have e35 : ac.tmps[35]? = some (sp (fun j => p j || q j)) := by obtain ⟨v, h1, h2⟩ := h 35 (by decide +kernel); rw [h1]; exact congrArg some h2
      have e38 : ac.tmps[38]? = some (bp (fun j => p j || q j)) := by obtain ⟨v, h1, h2⟩ := h 38 (by decide +kernel); rw [h1]; exact congrArg some h2
      have e32 : ac.tmps[32]? = some (.bool true) := by obtain ⟨v, h1, h2⟩ := h 32 (by decide +kernel); rw [h1]; exact congrArg some h2
      clear h hsz hdf
      go_wp2_with ((go_at_call 10; refine (lawSame (fun j => p j || q j) (fun j => p j || q j) _).mono ?_; rintro e w9 ⟨rfl, hb9⟩; rw [sameP_refl (fun _ _ => rfl)]))
      exact ⟨_, rfl, (by first | rfl | simp), hb9⟩
    · -- 17: t40 := pick t32 t39 (const (Value.bool false)) 
      intro ac wx hE hsz hdf h
      have e32 : ac.tmps[32]? = some (.bool true) := by obtain ⟨v, h1, h2⟩ := h 32 (by decide +kernel); rw [h1]; exact congrArg some h2
      have e39 : ac.tmps[39]? = some (.bool true) := by obtain ⟨v, h1, h2⟩ := h 39 (by decide +kernel); rw [h1]; exact congrArg some h2
      clear h hsz hdf
      go_wp2
      exact ⟨_, rfl, (by first | rfl | simp), Ext.refl _⟩
    · -- 18: t41 := move t40 
      intro ac wx hE hsz hdf h
      have e40 : ac.tmps[40]? = some (.bool true) := by obtain ⟨v, h1, h2⟩ := h 40 (by decide +kernel); rw [h1]; exact congrArg some h2
      clear h hsz hdf
      go_wp2
      exact ⟨_, rfl, rfl, Ext.refl _⟩
    · -- 19: t42 := load 24 t3 (18, True)
      intro ac wx hE hsz hdf h
      have e3 : ac.tmps[3]? = some (.pointer (some ⟨ga, 0, none⟩)) := by obtain ⟨v, h1, h2⟩ := h 3 (by decide +kernel); exact h1.trans (h2.symm.trans rfl)
      have e41 : ac.tmps[41]? = some (.bool true) := by obtain ⟨v, h1, h2⟩ := h 41 (by decide +kernel); rw [h1]; exact congrArg some h2
      clear h hsz hdf
      obtain ⟨⟨y0, y1, y2, y3⟩, ⟨z0, z1, z2, z3⟩, d0, d1, dx⟩ := (HN.out.keep hE).looks h0
      go_wp2
      exact ⟨_, rfl, (by first | rfl | simp), Ext.refl _⟩
    · -- 20: t43 := call { value (Operand.func 13), args := #[t42], argTypes := #[24] } (18, True)
      intro ac wx hE hsz hdf h
      have e42 : ac.tmps[42]? = some (sp p) := by obtain ⟨v, h1, h2⟩ := h 42 (by decide +kernel); rw [h1]; exact congrArg some h2
      have e41 : ac.tmps[41]? = some (.bool true) := by obtain ⟨v, h1, h2⟩ := h 41 (by decide +kernel); rw [h1]; exact congrArg some h2
      clear h hsz hdf
      go_wp2_with ((go_at_call 13; refine (setNot p _).mono ?_; rintro e w9 ⟨rfl, hb9⟩))
      exact ⟨_, rfl, (by first | rfl | simp), hb9⟩
    · -- 21: t44 := load 28 t7 (18, True)
      intro ac wx hE hsz hdf h
      have e7 : ac.tmps[7]? = some (.pointer (some ⟨gx, 0, none⟩)) := by obtain ⟨v, h1, h2⟩ := h 7 (by decide +kernel); exact h1.trans (h2.symm.trans rfl)
      have e41 : ac.tmps[41]? = some (.bool true) := by obtain ⟨v, h1, h2⟩ := h 41 (by decide +kernel); rw [h1]; exact congrArg some h2
      clear h hsz hdf
      refine load_setG (j := 18) (b := true) (d := 41) rfl rfl e41 (.tmp 7) rfl (g := gx) ?_ (HN.out.x.keep hE) ?_
      · simp [Act.eval, e7]
      · go_wp2; exact ⟨_, rfl, rfl, Ext.refl _⟩
    · -- 22: t45 := call { value (Operand.func 14), args := #[t44], argTypes := #[28] } (18, True)
      intro ac wx hE hsz hdf h
      have e44 : ac.tmps[44]? = some (bp (p)) := by obtain ⟨v, h1, h2⟩ := h 44 (by decide +kernel); rw [h1]; exact congrArg some h2
      have e41 : ac.tmps[41]? = some (.bool true) := by obtain ⟨v, h1, h2⟩ := h 41 (by decide +kernel); rw [h1]; exact congrArg some h2
      clear h hsz hdf
      go_wp2_with ((go_at_call 14; refine (refNot p _).mono ?_; rintro e w9 ⟨rfl, hb9⟩))
      exact ⟨_, rfl, (by first | rfl | simp), hb9⟩
    · -- 23: t46 := call { value (Operand.func 10), args := #[t43, t45], argTypes := #[24, 28] } (18, True)
      intro ac wx hE hsz hdf h
      have e43 : ac.tmps[43]? = some (sp (fun j => !p j)) := by obtain ⟨v, h1, h2⟩ := h 43 (by decide +kernel); rw [h1]; exact congrArg some h2
      have e45 : ac.tmps[45]? = some (bp (fun j => !p j)) := by obtain ⟨v, h1, h2⟩ := h 45 (by decide +kernel); rw [h1]; exact congrArg some h2
      have e41 : ac.tmps[41]? = some (.bool true) := by obtain ⟨v, h1, h2⟩ := h 41 (by decide +kernel); rw [h1]; exact congrArg some h2
      clear h hsz hdf
      go_wp2_with ((go_at_call 10; refine (lawSame (fun j => !p j) (fun j => !p j) _).mono ?_; rintro e w9 ⟨rfl, hb9⟩; rw [sameP_refl (fun _ _ => rfl)]))
      exact ⟨_, rfl, (by first | rfl | simp), hb9⟩
    · -- 24: t47 := pick t41 t46 (const (Value.bool false)) 
      intro ac wx hE hsz hdf h
      have e41 : ac.tmps[41]? = some (.bool true) := by obtain ⟨v, h1, h2⟩ := h 41 (by decide +kernel); rw [h1]; exact congrArg some h2
      have e46 : ac.tmps[46]? = some (.bool true) := by obtain ⟨v, h1, h2⟩ := h 46 (by decide +kernel); rw [h1]; exact congrArg some h2
      clear h hsz hdf
      go_wp2
      exact ⟨_, rfl, (by first | rfl | simp), Ext.refl _⟩
    · -- 25: t48 := move t47 
      intro ac wx hE hsz hdf h
      have e47 : ac.tmps[47]? = some (.bool true) := by obtain ⟨v, h1, h2⟩ := h 47 (by decide +kernel); rw [h1]; exact congrArg some h2
      clear h hsz hdf
      go_wp2
      exact ⟨_, rfl, rfl, Ext.refl _⟩
    · -- 26: t49 := load 24 t3 (25, True)
      intro ac wx hE hsz hdf h
      have e3 : ac.tmps[3]? = some (.pointer (some ⟨ga, 0, none⟩)) := by obtain ⟨v, h1, h2⟩ := h 3 (by decide +kernel); exact h1.trans (h2.symm.trans rfl)
      have e48 : ac.tmps[48]? = some (.bool true) := by obtain ⟨v, h1, h2⟩ := h 48 (by decide +kernel); rw [h1]; exact congrArg some h2
      clear h hsz hdf
      obtain ⟨⟨y0, y1, y2, y3⟩, ⟨z0, z1, z2, z3⟩, d0, d1, dx⟩ := (HN.out.keep hE).looks h0
      go_wp2
      exact ⟨_, rfl, (by first | rfl | simp), Ext.refl _⟩
    · -- 27: t50 := call { value (Operand.func 15), args := #[t49], argTypes := #[24] } (25, True)
      intro ac wx hE hsz hdf h
      have e49 : ac.tmps[49]? = some (sp p) := by obtain ⟨v, h1, h2⟩ := h 49 (by decide +kernel); rw [h1]; exact congrArg some h2
      have e48 : ac.tmps[48]? = some (.bool true) := by obtain ⟨v, h1, h2⟩ := h 48 (by decide +kernel); rw [h1]; exact congrArg some h2
      clear h hsz hdf
      go_wp2_with ((go_at_call 15; refine (setLen p _).mono ?_; rintro e w9 ⟨rfl, hb9⟩))
      exact ⟨_, rfl, (by first | rfl | simp), hb9⟩
    · -- 28: t51 := load 28 t7 (25, True)
      intro ac wx hE hsz hdf h
      have e7 : ac.tmps[7]? = some (.pointer (some ⟨gx, 0, none⟩)) := by obtain ⟨v, h1, h2⟩ := h 7 (by decide +kernel); exact h1.trans (h2.symm.trans rfl)
      have e48 : ac.tmps[48]? = some (.bool true) := by obtain ⟨v, h1, h2⟩ := h 48 (by decide +kernel); rw [h1]; exact congrArg some h2
      clear h hsz hdf
      refine load_setG (j := 25) (b := true) (d := 48) rfl rfl e48 (.tmp 7) rfl (g := gx) ?_ (HN.out.x.keep hE) ?_
      · simp [Act.eval, e7]
      · go_wp2; exact ⟨_, rfl, rfl, Ext.refl _⟩
    · -- 29: t52 := call { value (Operand.func 16), args := #[t51], argTypes := #[28] } (25, True)
      intro ac wx hE hsz hdf h
      have e51 : ac.tmps[51]? = some (bp (p)) := by obtain ⟨v, h1, h2⟩ := h 51 (by decide +kernel); rw [h1]; exact congrArg some h2
      have e48 : ac.tmps[48]? = some (.bool true) := by obtain ⟨v, h1, h2⟩ := h 48 (by decide +kernel); rw [h1]; exact congrArg some h2
      clear h hsz hdf
      go_wp2_with ((go_at_call 16; refine (refLen p _).mono ?_; rintro e w9 ⟨rfl, hb9⟩))
      exact ⟨_, rfl, (by first | rfl | simp), hb9⟩
    · -- 30: t53 := binOp BinOp.eql 3 t50 t52 3 (25, True)
      intro ac wx hE hsz hdf h
      have e50 : ac.tmps[50]? = some (.int .i64 (cnt p 256 : Nat)) := by obtain ⟨v, h1, h2⟩ := h 50 (by decide +kernel); rw [h1]; exact congrArg some h2
      have e52 : ac.tmps[52]? = some (.int .i64 (cnt p 256 : Nat)) := by obtain ⟨v, h1, h2⟩ := h 52 (by decide +kernel); rw [h1]; exact congrArg some h2
      have e48 : ac.tmps[48]? = some (.bool true) := by obtain ⟨v, h1, h2⟩ := h 48 (by decide +kernel); rw [h1]; exact congrArg some h2
      clear h hsz hdf
      go_wp2
      exact ⟨_, rfl, (by first | rfl | simp), Ext.refl _⟩
    · -- 31: t54 := pick t48 t53 (const (Value.bool false)) 
      intro ac wx hE hsz hdf h
      have e48 : ac.tmps[48]? = some (.bool true) := by obtain ⟨v, h1, h2⟩ := h 48 (by decide +kernel); rw [h1]; exact congrArg some h2
      have e53 : ac.tmps[53]? = some (.bool true) := by obtain ⟨v, h1, h2⟩ := h 53 (by decide +kernel); rw [h1]; exact congrArg some h2
      clear h hsz hdf
      go_wp2
      exact ⟨_, rfl, (by first | rfl | simp), Ext.refl _⟩
    · -- 32: t55 := move t54 
      intro ac wx hE hsz hdf h
      have e54 : ac.tmps[54]? = some (.bool true) := by obtain ⟨v, h1, h2⟩ := h 54 (by decide +kernel); rw [h1]; exact congrArg some h2
      clear h hsz hdf
      go_wp2
      exact ⟨_, rfl, rfl, Ext.refl _⟩
    · -- 33: t56 := load 24 t3 (32, True)
      intro ac wx hE hsz hdf h
      have e3 : ac.tmps[3]? = some (.pointer (some ⟨ga, 0, none⟩)) := by obtain ⟨v, h1, h2⟩ := h 3 (by decide +kernel); exact h1.trans (h2.symm.trans rfl)
      have e55 : ac.tmps[55]? = some (.bool true) := by obtain ⟨v, h1, h2⟩ := h 55 (by decide +kernel); rw [h1]; exact congrArg some h2
      clear h hsz hdf
      obtain ⟨⟨y0, y1, y2, y3⟩, ⟨z0, z1, z2, z3⟩, d0, d1, dx⟩ := (HN.out.keep hE).looks h0
      go_wp2
      exact ⟨_, rfl, (by first | rfl | simp), Ext.refl _⟩
    · -- 34: t57 := call { value (Operand.func 17), args := #[t56], argTypes := #[24] } (32, True)
      intro ac wx hE hsz hdf h
      have e56 : ac.tmps[56]? = some (sp p) := by obtain ⟨v, h1, h2⟩ := h 56 (by decide +kernel); rw [h1]; exact congrArg some h2
      have e55 : ac.tmps[55]? = some (.bool true) := by obtain ⟨v, h1, h2⟩ := h 55 (by decide +kernel); rw [h1]; exact congrArg some h2
      clear h hsz hdf
      go_wp2_with ((go_at_call 17; refine (clText p _ (HT.out.keep hE)).mono ?_; rintro e w9 ⟨rfl, hb9⟩))
      exact ⟨_, rfl, (by first | rfl | simp), hb9⟩
    · -- 35: t58 := load 28 t7 (32, True)
      intro ac wx hE hsz hdf h
      have e7 : ac.tmps[7]? = some (.pointer (some ⟨gx, 0, none⟩)) := by obtain ⟨v, h1, h2⟩ := h 7 (by decide +kernel); exact h1.trans (h2.symm.trans rfl)
      have e55 : ac.tmps[55]? = some (.bool true) := by obtain ⟨v, h1, h2⟩ := h 55 (by decide +kernel); rw [h1]; exact congrArg some h2
      clear h hsz hdf
      refine load_setG (j := 32) (b := true) (d := 55) rfl rfl e55 (.tmp 7) rfl (g := gx) ?_ (HN.out.x.keep hE) ?_
      · simp [Act.eval, e7]
      · go_wp2; exact ⟨_, rfl, rfl, Ext.refl _⟩
    · -- 36: t59 := call { value (Operand.func 18), args := #[t58], argTypes := #[28] } (32, True)
      intro ac wx hE hsz hdf h
      have e58 : ac.tmps[58]? = some (bp (p)) := by obtain ⟨v, h1, h2⟩ := h 58 (by decide +kernel); rw [h1]; exact congrArg some h2
      have e55 : ac.tmps[55]? = some (.bool true) := by obtain ⟨v, h1, h2⟩ := h 55 (by decide +kernel); rw [h1]; exact congrArg some h2
      clear h hsz hdf
      go_wp2_with ((go_at_call 18; refine (refText p _).mono ?_; rintro e w9 ⟨rfl, hb9⟩))
      exact ⟨_, rfl, (by first | rfl | simp), hb9⟩
    · -- 37: t60 := binOp BinOp.eql 9 t57 t59 9 (32, True)
      intro ac wx hE hsz hdf h
      have e57 : ac.tmps[57]? = some (.string ⟨(textT p).toArray⟩) := by obtain ⟨v, h1, h2⟩ := h 57 (by decide +kernel); rw [h1]; exact congrArg some h2
      have e59 : ac.tmps[59]? = some (.string ⟨(textT p).toArray⟩) := by obtain ⟨v, h1, h2⟩ := h 59 (by decide +kernel); rw [h1]; exact congrArg some h2
      have e55 : ac.tmps[55]? = some (.bool true) := by obtain ⟨v, h1, h2⟩ := h 55 (by decide +kernel); rw [h1]; exact congrArg some h2
      clear h hsz hdf
      go_wp2
      exact ⟨_, rfl, (by first | rfl | simp), Ext.refl _⟩
    · -- 38: t61 := pick t55 t60 (const (Value.bool false)) 
      intro ac wx hE hsz hdf h
      have e55 : ac.tmps[55]? = some (.bool true) := by obtain ⟨v, h1, h2⟩ := h 55 (by decide +kernel); rw [h1]; exact congrArg some h2
      have e60 : ac.tmps[60]? = some (.bool true) := by obtain ⟨v, h1, h2⟩ := h 60 (by decide +kernel); rw [h1]; exact congrArg some h2
      clear h hsz hdf
      go_wp2
      exact ⟨_, rfl, (by first | rfl | simp), Ext.refl _⟩
    · -- 39: t62 := move t61 
      intro ac wx hE hsz hdf h
      have e61 : ac.tmps[61]? = some (.bool true) := by obtain ⟨v, h1, h2⟩ := h 61 (by decide +kernel); rw [h1]; exact congrArg some h2
      clear h hsz hdf
      go_wp2
      exact ⟨_, rfl, rfl, Ext.refl _⟩
    · -- 40: t63 := indexAddr 25 t5 (const (0:i64)) (39, True)
      intro ac wx hE hsz hdf h
      have e5 : ac.tmps[5]? = some (.pointer (some ⟨gc, 0, none⟩)) := by obtain ⟨v, h1, h2⟩ := h 5 (by decide +kernel); exact h1.trans (h2.symm.trans rfl)
      have e62 : ac.tmps[62]? = some (.bool true) := by obtain ⟨v, h1, h2⟩ := h 62 (by decide +kernel); rw [h1]; exact congrArg some h2
      clear h hsz hdf
      go_wp2
      exact ⟨_, rfl, (by first | rfl | simp), Ext.refl _⟩
    · -- 41: t64 := load 5 t63 (39, True)
      intro ac wx hE hsz hdf h
      have e63 : ac.tmps[63]? = some (.pointer (some ⟨gc, 0, none⟩)) := by obtain ⟨v, h1, h2⟩ := h 63 (by decide +kernel); rw [h1]; exact congrArg some h2
      have e62 : ac.tmps[62]? = some (.bool true) := by obtain ⟨v, h1, h2⟩ := h 62 (by decide +kernel); rw [h1]; exact congrArg some h2
      clear h hsz hdf
      obtain ⟨⟨y0, y1, y2, y3⟩, ⟨z0, z1, z2, z3⟩, d0, d1, dx⟩ := (HN.out.keep hE).looks h0
      go_wp2
      exact ⟨_, rfl, (by first | rfl | simp), Ext.refl _⟩
    · -- 42: t65 := call { value (Operand.func 19), args := #[t64], argTypes := #[5] } (39, True)
      intro ac wx hE hsz hdf h
      have e64 : ac.tmps[64]? = some (.int .u8 c0) := by obtain ⟨v, h1, h2⟩ := h 64 (by decide +kernel); rw [h1]; exact congrArg some h2
      have e62 : ac.tmps[62]? = some (.bool true) := by obtain ⟨v, h1, h2⟩ := h 62 (by decide +kernel); rw [h1]; exact congrArg some h2
      clear h hsz hdf
      go_wp2_with ((go_at_call 19; refine (setOne c0 h0 _).mono ?_; rintro e w9 ⟨rfl, hb9⟩))
      exact ⟨_, rfl, (by first | rfl | simp), hb9⟩
    · -- 43: t66 := load 28 t9 (39, True)
      intro ac wx hE hsz hdf h
      have e9 : ac.tmps[9]? = some (.pointer (some ⟨go, 0, none⟩)) := by obtain ⟨v, h1, h2⟩ := h 9 (by decide +kernel); exact h1.trans (h2.symm.trans rfl)
      have e62 : ac.tmps[62]? = some (.bool true) := by obtain ⟨v, h1, h2⟩ := h 62 (by decide +kernel); rw [h1]; exact congrArg some h2
      clear h hsz hdf
      refine load_setG (j := 39) (b := true) (d := 62) rfl rfl e62 (.tmp 9) rfl (g := go) ?_ (HO.out.keep hE) ?_
      · simp [Act.eval, e9]
      · go_wp2; exact ⟨_, rfl, rfl, Ext.refl _⟩
    · -- 44: t67 := call { value (Operand.func 10), args := #[t65, t66], argTypes := #[24, 28] } (39, True)
      intro ac wx hE hsz hdf h
      have e65 : ac.tmps[65]? = some (sp (isM c0)) := by obtain ⟨v, h1, h2⟩ := h 65 (by decide +kernel); rw [h1]; exact congrArg some h2
      have e66 : ac.tmps[66]? = some (bp (isM c0)) := by obtain ⟨v, h1, h2⟩ := h 66 (by decide +kernel); rw [h1]; exact congrArg some h2
      have e62 : ac.tmps[62]? = some (.bool true) := by obtain ⟨v, h1, h2⟩ := h 62 (by decide +kernel); rw [h1]; exact congrArg some h2
      clear h hsz hdf
      go_wp2_with ((go_at_call 10; refine (lawSame (isM c0) (isM c0) _).mono ?_; rintro e w9 ⟨rfl, hb9⟩; rw [sameP_refl (fun _ _ => rfl)]))
      exact ⟨_, rfl, (by first | rfl | simp), hb9⟩
    · -- 45: t68 := pick t62 t67 (const (Value.bool false)) 
      intro ac wx hE hsz hdf h
      have e62 : ac.tmps[62]? = some (.bool true) := by obtain ⟨v, h1, h2⟩ := h 62 (by decide +kernel); rw [h1]; exact congrArg some h2
      have e67 : ac.tmps[67]? = some (.bool true) := by obtain ⟨v, h1, h2⟩ := h 67 (by decide +kernel); rw [h1]; exact congrArg some h2
      clear h hsz hdf
      go_wp2
      exact ⟨_, rfl, (by first | rfl | simp), Ext.refl _⟩
    · -- 46: t69 := move t68 
      intro ac wx hE hsz hdf h
      have e68 : ac.tmps[68]? = some (.bool true) := by obtain ⟨v, h1, h2⟩ := h 68 (by decide +kernel); rw [h1]; exact congrArg some h2
      clear h hsz hdf
      go_wp2
      exact ⟨_, rfl, rfl, Ext.refl _⟩
    · -- 47: t70 := indexAddr 25 t5 (const (0:i64)) (46, True)
      intro ac wx hE hsz hdf h
      have e5 : ac.tmps[5]? = some (.pointer (some ⟨gc, 0, none⟩)) := by obtain ⟨v, h1, h2⟩ := h 5 (by decide +kernel); exact h1.trans (h2.symm.trans rfl)
      have e69 : ac.tmps[69]? = some (.bool true) := by obtain ⟨v, h1, h2⟩ := h 69 (by decide +kernel); rw [h1]; exact congrArg some h2
      clear h hsz hdf
      go_wp2
      exact ⟨_, rfl, (by first | rfl | simp), Ext.refl _⟩
    · -- 48: t71 := load 5 t70 (46, True)
      intro ac wx hE hsz hdf h
      have e70 : ac.tmps[70]? = some (.pointer (some ⟨gc, 0, none⟩)) := by obtain ⟨v, h1, h2⟩ := h 70 (by decide +kernel); rw [h1]; exact congrArg some h2
      have e69 : ac.tmps[69]? = some (.bool true) := by obtain ⟨v, h1, h2⟩ := h 69 (by decide +kernel); rw [h1]; exact congrArg some h2
      clear h hsz hdf
      obtain ⟨⟨y0, y1, y2, y3⟩, ⟨z0, z1, z2, z3⟩, d0, d1, dx⟩ := (HN.out.keep hE).looks h0
      go_wp2
      exact ⟨_, rfl, (by first | rfl | simp), Ext.refl _⟩
    · -- 49: t72 := indexAddr 25 t5 (const (1:i64)) (46, True)
      intro ac wx hE hsz hdf h
      have e5 : ac.tmps[5]? = some (.pointer (some ⟨gc, 0, none⟩)) := by obtain ⟨v, h1, h2⟩ := h 5 (by decide +kernel); exact h1.trans (h2.symm.trans rfl)
      have e69 : ac.tmps[69]? = some (.bool true) := by obtain ⟨v, h1, h2⟩ := h 69 (by decide +kernel); rw [h1]; exact congrArg some h2
      clear h hsz hdf
      go_wp2
      exact ⟨_, rfl, (by first | rfl | simp), Ext.refl _⟩
    · -- 50: t73 := load 5 t72 (46, True)
      intro ac wx hE hsz hdf h
      have e72 : ac.tmps[72]? = some (.pointer (some ⟨gc, 1, none⟩)) := by obtain ⟨v, h1, h2⟩ := h 72 (by decide +kernel); rw [h1]; exact congrArg some h2
      have e69 : ac.tmps[69]? = some (.bool true) := by obtain ⟨v, h1, h2⟩ := h 69 (by decide +kernel); rw [h1]; exact congrArg some h2
      clear h hsz hdf
      obtain ⟨⟨y0, y1, y2, y3⟩, ⟨z0, z1, z2, z3⟩, d0, d1, dx⟩ := (HN.out.keep hE).looks h0
      go_wp2
      exact ⟨_, rfl, (by first | rfl | simp), Ext.refl _⟩
    · -- 51: t74 := call { value (Operand.func 20), args := #[t71, t73], argTypes := #[5, 5] } (46, True)
      intro ac wx hE hsz hdf h
      have e71 : ac.tmps[71]? = some (.int .u8 c0) := by obtain ⟨v, h1, h2⟩ := h 71 (by decide +kernel); rw [h1]; exact congrArg some h2
      have e73 : ac.tmps[73]? = some (.int .u8 c1) := by obtain ⟨v, h1, h2⟩ := h 73 (by decide +kernel); rw [h1]; exact congrArg some h2
      have e69 : ac.tmps[69]? = some (.bool true) := by obtain ⟨v, h1, h2⟩ := h 69 (by decide +kernel); rw [h1]; exact congrArg some h2
      clear h hsz hdf
      go_wp2_with ((go_at_call 20; refine (setRange c0 c1 h0 h1 _).mono ?_; rintro e w9 ⟨rfl, hb9⟩))
      exact ⟨_, rfl, (by first | rfl | simp), hb9⟩
    · -- 52: t75 := indexAddr 25 t5 (const (0:i64)) (46, True)
      intro ac wx hE hsz hdf h
      have e5 : ac.tmps[5]? = some (.pointer (some ⟨gc, 0, none⟩)) := by obtain ⟨v, h1, h2⟩ := h 5 (by decide +kernel); exact h1.trans (h2.symm.trans rfl)
      have e69 : ac.tmps[69]? = some (.bool true) := by obtain ⟨v, h1, h2⟩ := h 69 (by decide +kernel); rw [h1]; exact congrArg some h2
      clear h hsz hdf
      go_wp2
      exact ⟨_, rfl, (by first | rfl | simp), Ext.refl _⟩
    · -- 53: t76 := load 5 t75 (46, True)
      intro ac wx hE hsz hdf h
      have e75 : ac.tmps[75]? = some (.pointer (some ⟨gc, 0, none⟩)) := by obtain ⟨v, h1, h2⟩ := h 75 (by decide +kernel); rw [h1]; exact congrArg some h2
      have e69 : ac.tmps[69]? = some (.bool true) := by obtain ⟨v, h1, h2⟩ := h 69 (by decide +kernel); rw [h1]; exact congrArg some h2
      clear h hsz hdf
      obtain ⟨⟨y0, y1, y2, y3⟩, ⟨z0, z1, z2, z3⟩, d0, d1, dx⟩ := (HN.out.keep hE).looks h0
      go_wp2
      exact ⟨_, rfl, (by first | rfl | simp), Ext.refl _⟩
    · -- 54: t77 := convert 5 3 t76 (46, True)
      intro ac wx hE hsz hdf h
      have e76 : ac.tmps[76]? = some (.int .u8 c0) := by obtain ⟨v, h1, h2⟩ := h 76 (by decide +kernel); rw [h1]; exact congrArg some h2
      have e69 : ac.tmps[69]? = some (.bool true) := by obtain ⟨v, h1, h2⟩ := h 69 (by decide +kernel); rw [h1]; exact congrArg some h2
      clear h hsz hdf
      go_wp2
      exact ⟨_, rfl, (by first | rfl | simp), Ext.refl _⟩
    · -- 55: t78 := indexAddr 25 t5 (const (1:i64)) (46, True)
      intro ac wx hE hsz hdf h
      have e5 : ac.tmps[5]? = some (.pointer (some ⟨gc, 0, none⟩)) := by obtain ⟨v, h1, h2⟩ := h 5 (by decide +kernel); exact h1.trans (h2.symm.trans rfl)
      have e69 : ac.tmps[69]? = some (.bool true) := by obtain ⟨v, h1, h2⟩ := h 69 (by decide +kernel); rw [h1]; exact congrArg some h2
      clear h hsz hdf
      go_wp2
      exact ⟨_, rfl, (by first | rfl | simp), Ext.refl _⟩
    · -- 56: t79 := load 5 t78 (46, True)
      intro ac wx hE hsz hdf h
      have e78 : ac.tmps[78]? = some (.pointer (some ⟨gc, 1, none⟩)) := by obtain ⟨v, h1, h2⟩ := h 78 (by decide +kernel); rw [h1]; exact congrArg some h2
      have e69 : ac.tmps[69]? = some (.bool true) := by obtain ⟨v, h1, h2⟩ := h 69 (by decide +kernel); rw [h1]; exact congrArg some h2
      clear h hsz hdf
      obtain ⟨⟨y0, y1, y2, y3⟩, ⟨z0, z1, z2, z3⟩, d0, d1, dx⟩ := (HN.out.keep hE).looks h0
      go_wp2
      exact ⟨_, rfl, (by first | rfl | simp), Ext.refl _⟩
    · -- 57: t80 := convert 5 3 t79 (46, True)
      intro ac wx hE hsz hdf h
      have e79 : ac.tmps[79]? = some (.int .u8 c1) := by obtain ⟨v, h1, h2⟩ := h 79 (by decide +kernel); rw [h1]; exact congrArg some h2
      have e69 : ac.tmps[69]? = some (.bool true) := by obtain ⟨v, h1, h2⟩ := h 69 (by decide +kernel); rw [h1]; exact congrArg some h2
      clear h hsz hdf
      go_wp2
      exact ⟨_, rfl, (by first | rfl | simp), Ext.refl _⟩
    · -- 58: t81 := call { value (Operand.func 8), args := #[t77, t80], argTypes := #[3, 3] } (46, True)
      intro ac wx hE hsz hdf h
      have e77 : ac.tmps[77]? = some (.int .i64 c0) := by obtain ⟨v, h1, h2⟩ := h 77 (by decide +kernel); rw [h1]; exact congrArg some h2
      have e80 : ac.tmps[80]? = some (.int .i64 c1) := by obtain ⟨v, h1, h2⟩ := h 80 (by decide +kernel); rw [h1]; exact congrArg some h2
      have e69 : ac.tmps[69]? = some (.bool true) := by obtain ⟨v, h1, h2⟩ := h 69 (by decide +kernel); rw [h1]; exact congrArg some h2
      clear h hsz hdf
      go_wp2_with ((go_at_call 8; refine (refFrom c0 c1 h0 h1 _).mono ?_; rintro e w9 ⟨rfl, hb9⟩))
      exact ⟨_, rfl, (by first | rfl | simp), hb9⟩
    · -- 59: t82 := call { value (Operand.func 10), args := #[t74, t81], argTypes := #[24, 28] } (46, True)
      intro ac wx hE hsz hdf h
      have e74 : ac.tmps[74]? = some (sp (fun j => decide (c0 ≤ j) && decide (j ≤ c1))) := by obtain ⟨v, h1, h2⟩ := h 74 (by decide +kernel); rw [h1]; exact congrArg some h2
      have e81 : ac.tmps[81]? = some (bp (fun j => decide (c0 ≤ j) && decide (j ≤ c1))) := by obtain ⟨v, h1, h2⟩ := h 81 (by decide +kernel); rw [h1]; exact congrArg some h2
      have e69 : ac.tmps[69]? = some (.bool true) := by obtain ⟨v, h1, h2⟩ := h 69 (by decide +kernel); rw [h1]; exact congrArg some h2
      clear h hsz hdf
      go_wp2_with ((go_at_call 10; refine (lawSame (fun j => decide (c0 ≤ j) && decide (j ≤ c1)) (fun j => decide (c0 ≤ j) && decide (j ≤ c1)) _).mono ?_; rintro e w9 ⟨rfl, hb9⟩; rw [sameP_refl (fun _ _ => rfl)]))
      exact ⟨_, rfl, (by first | rfl | simp), hb9⟩
    · -- 60: t83 := pick t69 t82 (const (Value.bool false)) 
      intro ac wx hE hsz hdf h
      have e69 : ac.tmps[69]? = some (.bool true) := by obtain ⟨v, h1, h2⟩ := h 69 (by decide +kernel); rw [h1]; exact congrArg some h2
      have e82 : ac.tmps[82]? = some (.bool true) := by obtain ⟨v, h1, h2⟩ := h 82 (by decide +kernel); rw [h1]; exact congrArg some h2
      clear h hsz hdf
      go_wp2
      exact ⟨_, rfl, (by first | rfl | simp), Ext.refl _⟩
    · -- 61: t84 := move t83 
      intro ac wx hE hsz hdf h
      have e83 : ac.tmps[83]? = some (.bool true) := by obtain ⟨v, h1, h2⟩ := h 83 (by decide +kernel); rw [h1]; exact congrArg some h2
      clear h hsz hdf
      go_wp2
      exact ⟨_, rfl, rfl, Ext.refl _⟩
    · -- 62: t85 := call { value (Operand.func 21), args := #[], argTypes := #[] } (61, True)
      intro ac wx hE hsz hdf h
      have e84 : ac.tmps[84]? = some (.bool true) := by obtain ⟨v, h1, h2⟩ := h 84 (by decide +kernel); rw [h1]; exact congrArg some h2
      clear h hsz hdf
      go_wp2_with ((go_at_call 21; refine (setAll _).mono ?_; rintro e w9 ⟨rfl, hb9⟩))
      exact ⟨_, rfl, (by first | rfl | simp), hb9⟩
    · -- 63: t86 := call { value (Operand.func 15), args := #[t85], argTypes := #[24] } (61, True)
      intro ac wx hE hsz hdf h
      have e85 : ac.tmps[85]? = some (sp (fun _ => true)) := by obtain ⟨v, h1, h2⟩ := h 85 (by decide +kernel); rw [h1]; exact congrArg some h2
      have e84 : ac.tmps[84]? = some (.bool true) := by obtain ⟨v, h1, h2⟩ := h 84 (by decide +kernel); rw [h1]; exact congrArg some h2
      clear h hsz hdf
      go_wp2_with ((go_at_call 15; refine (setLen (fun _ => true) _).mono ?_; rintro e w9 ⟨rfl, hb9⟩; rw [cnt_all]))
      exact ⟨_, rfl, (by first | rfl | simp), hb9⟩
    · -- 64: t87 := binOp BinOp.eql 3 t86 (const (256:i64)) 3 (61, True)
      intro ac wx hE hsz hdf h
      have e86 : ac.tmps[86]? = some (.int .i64 256) := by obtain ⟨v, h1, h2⟩ := h 86 (by decide +kernel); rw [h1]; exact congrArg some h2
      have e84 : ac.tmps[84]? = some (.bool true) := by obtain ⟨v, h1, h2⟩ := h 84 (by decide +kernel); rw [h1]; exact congrArg some h2
      clear h hsz hdf
      go_wp2
      exact ⟨_, rfl, (by first | rfl | simp), Ext.refl _⟩
    · -- 65: t88 := pick t84 t87 (const (Value.bool false)) 
      intro ac wx hE hsz hdf h
      have e84 : ac.tmps[84]? = some (.bool true) := by obtain ⟨v, h1, h2⟩ := h 84 (by decide +kernel); rw [h1]; exact congrArg some h2
      have e87 : ac.tmps[87]? = some (.bool true) := by obtain ⟨v, h1, h2⟩ := h 87 (by decide +kernel); rw [h1]; exact congrArg some h2
      clear h hsz hdf
      go_wp2
      exact ⟨_, rfl, (by first | rfl | simp), Ext.refl _⟩
    · -- 66: t6 := assign t88 
      intro ac wx hE hsz hdf h
      have e88 : ac.tmps[88]? = some (.bool true) := by obtain ⟨v, h1, h2⟩ := h 88 (by decide +kernel); rw [h1]; exact congrArg some h2
      clear h hsz hdf
      go_wp2
      exact ⟨_, rfl, rfl, Ext.refl _⟩
    · intro ac w9 hE hsz hdf h hrest
      obtain ⟨v0, s0, g0⟩ := h 0 _ rfl
      have e0 := g0 23 rfl
      obtain rfl : v0 = sp p := s0
      obtain ⟨v1, s1, g1⟩ := h 1 _ rfl
      have e1 := g1 24 rfl
      obtain rfl : v1 = .pointer (some ⟨gc, 0, none⟩) := s1
      obtain ⟨v2, s2, g2⟩ := h 2 _ rfl
      have e2 := g2 25 rfl
      obtain rfl : v2 = .int .u8 c0 := s2
      obtain ⟨v3, s3, g3⟩ := h 3 _ rfl
      have e3 := g3 26 rfl
      obtain rfl : v3 = .bool (p c0) := s3
      obtain ⟨v4, s4, g4⟩ := h 4 _ rfl
      have e4 := g4 27 rfl
      obtain rfl : v4 = .pointer (some ⟨gc, 0, none⟩) := s4
      obtain ⟨v5, s5, g5⟩ := h 5 _ rfl
      have e5 := g5 28 rfl
      obtain rfl : v5 = .int .u8 c0 := s5
      obtain ⟨v6, s6, g6⟩ := h 6 _ rfl
      have e6 := g6 29 rfl
      obtain rfl : v6 = .pointer (some ⟨gx, c0, none⟩) := s6
      obtain ⟨v7, s7, g7⟩ := h 7 _ rfl
      have e7 := g7 30 rfl
      obtain rfl : v7 = .bool (p c0) := s7
      obtain ⟨v8, s8, g8⟩ := h 8 _ rfl
      have e8 := g8 31 rfl
      obtain rfl : v8 = .bool true := s8
      obtain ⟨v9, s9, g9⟩ := h 9 _ rfl
      have e9 := g9 32 rfl
      obtain rfl : v9 = .bool true := s9
      obtain ⟨v10, s10, g10⟩ := h 10 _ rfl
      have e10 := g10 33 rfl
      obtain rfl : v10 = sp p := s10
      obtain ⟨v11, s11, g11⟩ := h 11 _ rfl
      have e11 := g11 34 rfl
      obtain rfl : v11 = sp q := s11
      obtain ⟨v12, s12, g12⟩ := h 12 _ rfl
      have e12 := g12 35 rfl
      obtain rfl : v12 = sp (fun j => p j || q j) := s12
      obtain ⟨v13, s13, g13⟩ := h 13 _ rfl
      have e13 := g13 36 rfl
      obtain rfl : v13 = bp (p) := s13
      obtain ⟨v14, s14, g14⟩ := h 14 _ rfl
      have e14 := g14 37 rfl
      obtain rfl : v14 = bp (q) := s14
      obtain ⟨v15, s15, g15⟩ := h 15 _ rfl
      have e15 := g15 38 rfl
      obtain rfl : v15 = bp (fun j => p j || q j) := s15
      obtain ⟨v16, s16, g16⟩ := h 16 _ rfl
      have e16 := g16 39 rfl
      obtain rfl : v16 = .bool true := s16
      obtain ⟨v17, s17, g17⟩ := h 17 _ rfl
      have e17 := g17 40 rfl
      obtain rfl : v17 = .bool true := s17
      obtain ⟨v18, s18, g18⟩ := h 18 _ rfl
      have e18 := g18 41 rfl
      obtain rfl : v18 = .bool true := s18
      obtain ⟨v19, s19, g19⟩ := h 19 _ rfl
      have e19 := g19 42 rfl
      obtain rfl : v19 = sp p := s19
      obtain ⟨v20, s20, g20⟩ := h 20 _ rfl
      have e20 := g20 43 rfl
      obtain rfl : v20 = sp (fun j => !p j) := s20
      obtain ⟨v21, s21, g21⟩ := h 21 _ rfl
      have e21 := g21 44 rfl
      obtain rfl : v21 = bp (p) := s21
      obtain ⟨v22, s22, g22⟩ := h 22 _ rfl
      have e22 := g22 45 rfl
      obtain rfl : v22 = bp (fun j => !p j) := s22
      obtain ⟨v23, s23, g23⟩ := h 23 _ rfl
      have e23 := g23 46 rfl
      obtain rfl : v23 = .bool true := s23
      obtain ⟨v24, s24, g24⟩ := h 24 _ rfl
      have e24 := g24 47 rfl
      obtain rfl : v24 = .bool true := s24
      obtain ⟨v25, s25, g25⟩ := h 25 _ rfl
      have e25 := g25 48 rfl
      obtain rfl : v25 = .bool true := s25
      obtain ⟨v26, s26, g26⟩ := h 26 _ rfl
      have e26 := g26 49 rfl
      obtain rfl : v26 = sp p := s26
      obtain ⟨v27, s27, g27⟩ := h 27 _ rfl
      have e27 := g27 50 rfl
      obtain rfl : v27 = .int .i64 (cnt p 256 : Nat) := s27
      obtain ⟨v28, s28, g28⟩ := h 28 _ rfl
      have e28 := g28 51 rfl
      obtain rfl : v28 = bp (p) := s28
      obtain ⟨v29, s29, g29⟩ := h 29 _ rfl
      have e29 := g29 52 rfl
      obtain rfl : v29 = .int .i64 (cnt p 256 : Nat) := s29
      obtain ⟨v30, s30, g30⟩ := h 30 _ rfl
      have e30 := g30 53 rfl
      obtain rfl : v30 = .bool true := s30
      obtain ⟨v31, s31, g31⟩ := h 31 _ rfl
      have e31 := g31 54 rfl
      obtain rfl : v31 = .bool true := s31
      obtain ⟨v32, s32, g32⟩ := h 32 _ rfl
      have e32 := g32 55 rfl
      obtain rfl : v32 = .bool true := s32
      obtain ⟨v33, s33, g33⟩ := h 33 _ rfl
      have e33 := g33 56 rfl
      obtain rfl : v33 = sp p := s33
      obtain ⟨v34, s34, g34⟩ := h 34 _ rfl
      have e34 := g34 57 rfl
      obtain rfl : v34 = .string ⟨(textT p).toArray⟩ := s34
      obtain ⟨v35, s35, g35⟩ := h 35 _ rfl
      have e35 := g35 58 rfl
      obtain rfl : v35 = bp (p) := s35
      obtain ⟨v36, s36, g36⟩ := h 36 _ rfl
      have e36 := g36 59 rfl
      obtain rfl : v36 = .string ⟨(textT p).toArray⟩ := s36
      obtain ⟨v37, s37, g37⟩ := h 37 _ rfl
      have e37 := g37 60 rfl
      obtain rfl : v37 = .bool true := s37
      obtain ⟨v38, s38, g38⟩ := h 38 _ rfl
      have e38 := g38 61 rfl
      obtain rfl : v38 = .bool true := s38
      obtain ⟨v39, s39, g39⟩ := h 39 _ rfl
      have e39 := g39 62 rfl
      obtain rfl : v39 = .bool true := s39
      obtain ⟨v40, s40, g40⟩ := h 40 _ rfl
      have e40 := g40 63 rfl
      obtain rfl : v40 = .pointer (some ⟨gc, 0, none⟩) := s40
      obtain ⟨v41, s41, g41⟩ := h 41 _ rfl
      have e41 := g41 64 rfl
      obtain rfl : v41 = .int .u8 c0 := s41
      obtain ⟨v42, s42, g42⟩ := h 42 _ rfl
      have e42 := g42 65 rfl
      obtain rfl : v42 = sp (isM c0) := s42
      obtain ⟨v43, s43, g43⟩ := h 43 _ rfl
      have e43 := g43 66 rfl
      obtain rfl : v43 = bp (isM c0) := s43
      obtain ⟨v44, s44, g44⟩ := h 44 _ rfl
      have e44 := g44 67 rfl
      obtain rfl : v44 = .bool true := s44
      obtain ⟨v45, s45, g45⟩ := h 45 _ rfl
      have e45 := g45 68 rfl
      obtain rfl : v45 = .bool true := s45
      obtain ⟨v46, s46, g46⟩ := h 46 _ rfl
      have e46 := g46 69 rfl
      obtain rfl : v46 = .bool true := s46
      obtain ⟨v47, s47, g47⟩ := h 47 _ rfl
      have e47 := g47 70 rfl
      obtain rfl : v47 = .pointer (some ⟨gc, 0, none⟩) := s47
      obtain ⟨v48, s48, g48⟩ := h 48 _ rfl
      have e48 := g48 71 rfl
      obtain rfl : v48 = .int .u8 c0 := s48
      obtain ⟨v49, s49, g49⟩ := h 49 _ rfl
      have e49 := g49 72 rfl
      obtain rfl : v49 = .pointer (some ⟨gc, 1, none⟩) := s49
      obtain ⟨v50, s50, g50⟩ := h 50 _ rfl
      have e50 := g50 73 rfl
      obtain rfl : v50 = .int .u8 c1 := s50
      obtain ⟨v51, s51, g51⟩ := h 51 _ rfl
      have e51 := g51 74 rfl
      obtain rfl : v51 = sp (fun j => decide (c0 ≤ j) && decide (j ≤ c1)) := s51
      obtain ⟨v52, s52, g52⟩ := h 52 _ rfl
      have e52 := g52 75 rfl
      obtain rfl : v52 = .pointer (some ⟨gc, 0, none⟩) := s52
      obtain ⟨v53, s53, g53⟩ := h 53 _ rfl
      have e53 := g53 76 rfl
      obtain rfl : v53 = .int .u8 c0 := s53
      obtain ⟨v54, s54, g54⟩ := h 54 _ rfl
      have e54 := g54 77 rfl
      obtain rfl : v54 = .int .i64 c0 := s54
      obtain ⟨v55, s55, g55⟩ := h 55 _ rfl
      have e55 := g55 78 rfl
      obtain rfl : v55 = .pointer (some ⟨gc, 1, none⟩) := s55
      obtain ⟨v56, s56, g56⟩ := h 56 _ rfl
      have e56 := g56 79 rfl
      obtain rfl : v56 = .int .u8 c1 := s56
      obtain ⟨v57, s57, g57⟩ := h 57 _ rfl
      have e57 := g57 80 rfl
      obtain rfl : v57 = .int .i64 c1 := s57
      obtain ⟨v58, s58, g58⟩ := h 58 _ rfl
      have e58 := g58 81 rfl
      obtain rfl : v58 = bp (fun j => decide (c0 ≤ j) && decide (j ≤ c1)) := s58
      obtain ⟨v59, s59, g59⟩ := h 59 _ rfl
      have e59 := g59 82 rfl
      obtain rfl : v59 = .bool true := s59
      obtain ⟨v60, s60, g60⟩ := h 60 _ rfl
      have e60 := g60 83 rfl
      obtain rfl : v60 = .bool true := s60
      obtain ⟨v61, s61, g61⟩ := h 61 _ rfl
      have e61 := g61 84 rfl
      obtain rfl : v61 = .bool true := s61
      obtain ⟨v62, s62, g62⟩ := h 62 _ rfl
      have e62 := g62 85 rfl
      obtain rfl : v62 = sp (fun _ => true) := s62
      obtain ⟨v63, s63, g63⟩ := h 63 _ rfl
      have e63 := g63 86 rfl
      obtain rfl : v63 = .int .i64 256 := s63
      obtain ⟨v64, s64, g64⟩ := h 64 _ rfl
      have e64 := g64 87 rfl
      obtain rfl : v64 = .bool true := s64
      obtain ⟨v65, s65, g65⟩ := h 65 _ rfl
      have e65 := g65 88 rfl
      obtain rfl : v65 = .bool true := s65
      obtain ⟨v66, s66, g66⟩ := h 66 _ rfl
      have e66 := g66 6 rfl
      obtain rfl : v66 = .bool true := s66
      have ha := act_of [(23, sp p), (24, .pointer (some ⟨gc, 0, none⟩)), (25, .int .u8 c0), (26, .bool (p c0)), (27, .pointer (some ⟨gc, 0, none⟩)), (28, .int .u8 c0), (29, .pointer (some ⟨gx, c0, none⟩)), (30, .bool (p c0)), (31, .bool true), (32, .bool true), (33, sp p), (34, sp q), (35, sp (fun j => p j || q j)), (36, bp (p)), (37, bp (q)), (38, bp (fun j => p j || q j)), (39, .bool true), (40, .bool true), (41, .bool true), (42, sp p), (43, sp (fun j => !p j)), (44, bp (p)), (45, bp (fun j => !p j)), (46, .bool true), (47, .bool true), (48, .bool true), (49, sp p), (50, .int .i64 (cnt p 256 : Nat)), (51, bp (p)), (52, .int .i64 (cnt p 256 : Nat)), (53, .bool true), (54, .bool true), (55, .bool true), (56, sp p), (57, .string ⟨(textT p).toArray⟩), (58, bp (p)), (59, .string ⟨(textT p).toArray⟩), (60, .bool true), (61, .bool true), (62, .bool true), (63, .pointer (some ⟨gc, 0, none⟩)), (64, .int .u8 c0), (65, sp (isM c0)), (66, bp (isM c0)), (67, .bool true), (68, .bool true), (69, .bool true), (70, .pointer (some ⟨gc, 0, none⟩)), (71, .int .u8 c0), (72, .pointer (some ⟨gc, 1, none⟩)), (73, .int .u8 c1), (74, sp (fun j => decide (c0 ≤ j) && decide (j ≤ c1))), (75, .pointer (some ⟨gc, 0, none⟩)), (76, .int .u8 c0), (77, .int .i64 c0), (78, .pointer (some ⟨gc, 1, none⟩)), (79, .int .u8 c1), (80, .int .i64 c1), (81, bp (fun j => decide (c0 ≤ j) && decide (j ≤ c1))), (82, .bool true), (83, .bool true), (84, .bool true), (85, sp (fun _ => true)), (86, .int .i64 256), (87, .bool true), (88, .bool true), (6, .bool true)] rfl hsz hdf (by intro p hp; simp only [List.mem_cons, List.not_mem_nil, or_false] at hp; rcases hp with rfl | rfl | rfl | rfl | rfl | rfl | rfl | rfl | rfl | rfl | rfl | rfl | rfl | rfl | rfl | rfl | rfl | rfl | rfl | rfl | rfl | rfl | rfl | rfl | rfl | rfl | rfl | rfl | rfl | rfl | rfl | rfl | rfl | rfl | rfl | rfl | rfl | rfl | rfl | rfl | rfl | rfl | rfl | rfl | rfl | rfl | rfl | rfl | rfl | rfl | rfl | rfl | rfl | rfl | rfl | rfl | rfl | rfl | rfl | rfl | rfl | rfl | rfl | rfl | rfl | rfl | rfl <;> first | exact e0 | exact e1 | exact e2 | exact e3 | exact e4 | exact e5 | exact e6 | exact e7 | exact e8 | exact e9 | exact e10 | exact e11 | exact e12 | exact e13 | exact e14 | exact e15 | exact e16 | exact e17 | exact e18 | exact e19 | exact e20 | exact e21 | exact e22 | exact e23 | exact e24 | exact e25 | exact e26 | exact e27 | exact e28 | exact e29 | exact e30 | exact e31 | exact e32 | exact e33 | exact e34 | exact e35 | exact e36 | exact e37 | exact e38 | exact e39 | exact e40 | exact e41 | exact e42 | exact e43 | exact e44 | exact e45 | exact e46 | exact e47 | exact e48 | exact e49 | exact e50 | exact e51 | exact e52 | exact e53 | exact e54 | exact e55 | exact e56 | exact e57 | exact e58 | exact e59 | exact e60 | exact e61 | exact e62 | exact e63 | exact e64 | exact e65 | exact e66) hrest
      clear h hrest hsz hdf e0 e1 e2 e3 e4 e5 e6 e7 e8 e9 e10 e11 e12 e13 e14 e15 e16 e17 e18 e19 e20 e21 e22 e23 e24 e25 e26 e27 e28 e29 e30 e31 e32 e33 e34 e35 e36 e37 e38 e39 e40 e41 e42 e43 e44 e45 e46 e47 e48 e49 e50 e51 e52 e53 e54 e55 e56 e57 e58 e59 e60 e61 e62 e63 e64 e65 e66 g0 g1 g2 g3 g4 g5 g6 g7 g8 g9 g10 g11 g12 g13 g14 g15 g16 g17 g18 g19 g20 g21 g22 g23 g24 g25 g26 g27 g28 g29 g30 g31 g32 g33 g34 g35 g36 g37 g38 g39 g40 g41 g42 g43 g44 g45 g46 g47 g48 g49 g50 g51 g52 g53 g54 g55 g56 g57 g58 g59 g60 g61 g62 g63 g64 g65 g66
      subst ha
      simp only [List.foldl_cons, List.foldl_nil, Act.put, List.setIfInBounds_toArray, List.set_cons_succ, List.set_cons_zero]
    -- GAD ClSets5
      go_wp2
      go_ret
      exact ⟨by simp, Ext.trans HX.out hE⟩
end Go.Proofs.YtkknhocehladdaaDoor
