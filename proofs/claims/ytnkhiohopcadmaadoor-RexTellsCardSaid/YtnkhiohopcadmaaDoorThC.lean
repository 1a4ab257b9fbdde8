/- Put together: Dn10, Dn11. -/
import Derived.Test.YtnkhiohopcadmaaDoorTgS
import Derived.Test.YtnkhiohopcadmaaDoorTgA
import Derived.Test.YtnkhiohopcadmaaDoorThB
import Derived.Test.YtnkhiohopcadmaaDoorTgT
import Derived.Test.YtnkhiohopcadmaaDoorTgU
import Derived.Test.YtnkhiohopcadmaaDoorTgP
import Derived.Test.YtnkhiohopcadmaaDoorTgR
namespace Go.Proofs.YtnkhiohopcadmaaDoor
open Go Go.RowKit

theorem flag_other {L : Array Bool} {i k : Nat} (h : k ≠ i) : (L.setIfInBounds i true)[k]? = L[k]? := by
  rw [Array.getElem?_setIfInBounds]
  simp [Ne.symm h]
theorem flag_own {L : Array Bool} {i : Nat} (h : i < L.size) : (L.setIfInBounds i true)[i]? = some true := by
  rw [Array.getElem?_setIfInBounds]
  simp [h]
theorem put_other {a : Act} {d t : Nat} {v : Value} (h : t ≠ d) : (a.put (some d) v).tmps[t]? = a.tmps[t]? := by
  simp only [Act.put, Array.getElem?_setIfInBounds]
  simp [Ne.symm h]
theorem put_own {a : Act} {d : Nat} {v : Value} (h : d < a.tmps.size) : (a.put (some d) v).tmps[d]? = some v := by
  simp only [Act.put, Array.getElem?_setIfInBounds]
  simp [h]
def ptrV (g : Nat) : Value := .pointer (some ⟨g, 0, none⟩)
theorem ptrV_inj {g g' : Nat} (h : ptrV g = ptrV g') : g = g' := by
  unfold ptrV at h
  simpa using h
/-- Blocks that the two new nodes' blocks are not. -/
def Sx (B : Nat) (a : Act) (b : Nat) : Prop := B ≤ b ∧ a.tmps[5]? ≠ some (ptrV b) ∧ a.tmps[6]? ≠ some (ptrV b)
theorem Sx_put {B : Nat} {a : Act} {d : Nat} {v : Value} (h5 : d ≠ 5) (h6 : d ≠ 6) : Sx B (a.put (some d) v) = Sx B a := by
  funext b
  unfold Sx
  rw [put_other (Ne.symm h5), put_other (Ne.symm h6)]
/-- One tree: it has been made (c, into slot q), its block has been allotted (al, slot p), and filled (st). -/
structure Side (B : Nat) (t : T) (p q c al st : Nat) (L : Array Bool) (a : Act) (w : World) : Prop where
  un : L[al]? ≠ some true → a.tmps[p]? = some undef
  sa : L[st]? = some true → L[al]? = some true
  va : L[c]? = some true → ∃ l : List Value, a.tmps[q]? = some (.agg l.toArray) ∧ DNodeV (Sx B a) w t l
  bl : L[al]? = some true → ∃ g, ∃ l : List Value, a.tmps[p]? = some (ptrV g) ∧ B ≤ g ∧ l.length = 260 ∧ Blk w g 34 l ∧ (L[st]? = some true → DNodeV (Sx B a) w t l)
section
variable {B : Nat} {t : T} {p q c al st : Nat} {L L' : Array Bool} {a a' : Act} {w w' : World}
theorem Side.move (h : Side B t p q c al st L a w) (hc : L'[c]? = L[c]?) (hal : L'[al]? = L[al]?) (hst : L'[st]? = L[st]?) (hp : a'.tmps[p]? = a.tmps[p]?) (hq : a'.tmps[q]? = a.tmps[q]?)
    (hD : ∀ l, DNodeV (Sx B a) w t l → DNodeV (Sx B a') w' t l) (hB : ∀ g l, a.tmps[p]? = some (ptrV g) → Blk w g 34 l → Blk w' g 34 l) : Side B t p q c al st L' a' w' := by
  refine ⟨fun hl => ?_, fun hl => ?_, fun hl => ?_, fun hl => ?_⟩
  · rw [hp]; rw [hal] at hl; exact h.un hl
  · rw [hal]; rw [hst] at hl; exact h.sa hl
  · rw [hc] at hl
    obtain ⟨l, h1, h2⟩ := h.va hl
    exact ⟨l, hq.trans h1, hD l h2⟩
  · rw [hal] at hl
    obtain ⟨g, l, h1, h2, h3, h4, h5⟩ := h.bl hl
    exact ⟨g, l, hp.trans h1, h2, h3, hB g l h1 h4, fun hs => hD l (h5 (by rw [← hst]; exact hs))⟩
theorem Side.call (h : Side B t p q c al st L a w) (hx : Ext w w') {l : List Value} (hl : DNodeV (Sx B a) w' t l) (_ : c < L.size) (hqs : q < a.tmps.size) (h1 : al ≠ c) (h2 : st ≠ c) (h3 : p ≠ q) (h5 : q ≠ 5) (h6 : q ≠ 6) :
    Side B t p q c al st (L.setIfInBounds c true) (a.put (some q) (.agg l.toArray)) w' := by
  refine ⟨fun hl => ?_, fun hl => ?_, fun _ => ⟨l, put_own hqs, by rw [Sx_put h5 h6]; exact hl⟩, fun hl => ?_⟩
  · rw [put_other h3]; rw [flag_other h1] at hl; exact h.un hl
  · rw [flag_other h1]; rw [flag_other h2] at hl; exact h.sa hl
  · rw [flag_other h1] at hl
    obtain ⟨g, l', e1, e2, e3, e4, e5⟩ := h.bl hl
    exact ⟨g, l', by rw [put_other h3]; exact e1, e2, e3, e4.keep hx, fun hs => by rw [flag_other h2] at hs; rw [Sx_put h5 h6]; exact (e5 hs).keep hx⟩
theorem Side.new (h : Side B t p q c al st L a w) (hn : L[al]? = some false) (hB : B ≤ w.heap.size) (hal : al < L.size) (hps : p < a.tmps.size) (h1 : c ≠ al) (h2 : st ≠ al) (h3 : q ≠ p) (hp : p = 5 ∨ p = 6) :
    Side B t p q c al st (L.setIfInBounds al true) (a.put (some p) (ptrV w.heap.size)) (w.alloc (.cells Tryd.zeroCells34 34)) := by
  have hS : ∀ b, b < w.heap.size → Sx B a b → Sx B (a.put (some p) (ptrV w.heap.size)) b := fun b hb hs => by
    refine ⟨hs.1, ?_, ?_⟩
    · rcases hp with rfl | rfl
      · rw [put_own hps]; intro e; have := ptrV_inj (Option.some.inj e); omega
      · rw [put_other (by omega)]; exact hs.2.1
    · rcases hp with rfl | rfl
      · rw [put_other (by omega)]; exact hs.2.2
      · rw [put_own hps]; intro e; have := ptrV_inj (Option.some.inj e); omega
  refine ⟨fun hl => absurd (flag_own hal) hl, fun _ => flag_own hal, fun hl => ?_, fun _ => ⟨w.heap.size, _, put_own hps, hB, by rw [Array.length_toList]; exact zsize40, Blk.new w _ _, fun hs => ?_⟩⟩
  · rw [flag_other h1] at hl
    obtain ⟨l, e1, e2⟩ := h.va hl
    exact ⟨l, by rw [put_other h3]; exact e1, (e2.mono hS).keep (Ext.new1 _ _)⟩
  · rw [flag_other h2] at hs
    have := h.sa hs
    rw [hn] at this
    cases this
/-- The other tree, where a block is allotted. -/
theorem Side.newO (h : Side B t p q c al st L a w) {i d : Nat} (hi1 : c ≠ i) (hi2 : al ≠ i) (hi3 : st ≠ i) (hd1 : p ≠ d) (hd2 : q ≠ d) (hds : d < a.tmps.size) (hd : d = 5 ∨ d = 6) :
    Side B t p q c al st (L.setIfInBounds i true) (a.put (some d) (ptrV w.heap.size)) (w.alloc (.cells Tryd.zeroCells34 34)) := by
  have hS : ∀ b, b < w.heap.size → Sx B a b → Sx B (a.put (some d) (ptrV w.heap.size)) b := fun b hb hs => by
    refine ⟨hs.1, ?_, ?_⟩
    · rcases hd with rfl | rfl
      · rw [put_own hds]; intro e; have := ptrV_inj (Option.some.inj e); omega
      · rw [put_other (by omega)]; exact hs.2.1
    · rcases hd with rfl | rfl
      · rw [put_other (by omega)]; exact hs.2.2
      · rw [put_own hds]; intro e; have := ptrV_inj (Option.some.inj e); omega
  exact h.move (flag_other hi1) (flag_other hi2) (flag_other hi3) (put_other hd1) (put_other hd2) (fun l hl => (hl.mono hS).keep (Ext.new1 _ _)) (fun g l _ hb => hb.alloc _)
theorem row_chg (w : World) (g : Nat) (cs : Array Value) : Chg [g] w (w.setRow g cs) := rowChg4 w g cs
theorem Side.fill (h : Side B t p q c al st L a w) (hc : L[c]? = some true) (hal : L[al]? = some true) (_ : st < L.size) (_ : c ≠ st) (h2 : al ≠ st) (hp : p = 5 ∨ p = 6) {g : Nat} (hg : a.tmps[p]? = some (ptrV g)) {l : List Value} (hl : a.tmps[q]? = some (.agg l.toArray)) :
    Side B t p q c al st (L.setIfInBounds st true) a (w.setRow g l.toArray) := by
  have hS : ∀ x, x ∈ [g] → ¬ Sx B a x := fun x hx hs => by
    simp at hx
    subst hx
    rcases hp with rfl | rfl
    · exact hs.2.1 hg
    · exact hs.2.2 hg
  obtain ⟨l', e1, e2⟩ := h.va hc
  have he : l' = l := by
    rw [hl] at e1
    simpa using e1.symm
  subst he
  have hD := e2.chg (row_chg w g l'.toArray) hS
  refine ⟨fun hn => ?_, fun _ => by rw [flag_other h2]; exact hal, fun _ => ⟨l', hl, hD⟩, fun _ => ?_⟩
  · rw [flag_other h2] at hn; exact absurd hal hn
  · obtain ⟨g', l0, f1, f2, f3, f4, _⟩ := h.bl hal
    obtain rfl : g' = g := ptrV_inj (Option.some.inj (f1.symm.trans hg))
    exact ⟨g', l', hg, f2, dnodeV_len e2, Blk.row f4 _, fun _ => hD⟩
theorem Side.fillO (h : Side B t p q c al st L a w) {i g p' : Nat} (hi1 : c ≠ i) (hi2 : al ≠ i) (hi3 : st ≠ i) (hp' : p' = 5 ∨ p' = 6) (hg : a.tmps[p']? = some (ptrV g)) (hne : a.tmps[p]? ≠ some (ptrV g)) (cs : Array Value) :
    Side B t p q c al st (L.setIfInBounds i true) a (w.setRow g cs) := by
  have hS : ∀ x, x ∈ [g] → ¬ Sx B a x := fun x hx hs => by
    simp at hx
    subst hx
    rcases hp' with rfl | rfl
    · exact hs.2.1 hg
    · exact hs.2.2 hg
  refine h.move (flag_other hi1) (flag_other hi2) (flag_other hi3) rfl rfl (fun l hl => hl.chg (row_chg w g cs) hS) (fun g' l hg' hb => ?_)
  exact (setRow_other w g g' cs (fun e => hne (by rw [hg', e]))).trans hb
end
/-- Both trees. -/
def J3 (B : Nat) (ta tb : T) (L : Array Bool) (a : Act) (w : World) : Prop :=
  Side B ta 5 20 1 4 6 L a w ∧ Side B tb 6 22 3 5 7 L a w ∧ (L[4]? = some true → L[5]? = some true → a.tmps[5]? ≠ a.tmps[6]?)
section
variable {B : Nat} {ta tb : T} {L : Array Bool} {a : Act} {w w' : World}
theorem J3.easy (h : J3 B ta tb L a w) (hx : Ext w w') {i d : Nat} (v : Value) (hi : i = 0 ∨ i = 2) (hd : d = 19 ∨ d = 21) : J3 B ta tb (L.setIfInBounds i true) (a.put (some d) v) w' := by
  obtain ⟨h1, h2, h3⟩ := h
  refine ⟨h1.move (flag_other (by omega)) (flag_other (by omega)) (flag_other (by omega)) (put_other (by omega)) (put_other (by omega)) (fun l hl => by rw [Sx_put (by omega) (by omega)]; exact hl.keep hx) (fun g l _ hb => hb.keep hx),
    h2.move (flag_other (by omega)) (flag_other (by omega)) (flag_other (by omega)) (put_other (by omega)) (put_other (by omega)) (fun l hl => by rw [Sx_put (by omega) (by omega)]; exact hl.keep hx) (fun g l _ hb => hb.keep hx), fun e1 e2 => ?_⟩
  rw [flag_other (by omega)] at e1 e2
  rw [put_other (by omega), put_other (by omega)]
  exact h3 e1 e2
/-- New blocks are none of the two. -/
theorem J3.fresh (h : J3 B ta tb L a w) (hB : B ≤ w.heap.size) {b : Nat} (hb : w.heap.size ≤ b) : Sx B a b := by
  obtain ⟨h1, h2, _⟩ := h
  refine ⟨by omega, fun e => ?_, fun e => ?_⟩
  · by_cases hl : L[4]? = some true
    · obtain ⟨g, l, e1, _, _, e4, _⟩ := h1.bl hl
      have := ptrV_inj (Option.some.inj (e1.symm.trans e))
      have := e4.lt
      omega
    · rw [h1.un hl] at e
      cases e
  · by_cases hl : L[5]? = some true
    · obtain ⟨g, l, e1, _, _, e4, _⟩ := h2.bl hl
      have := ptrV_inj (Option.some.inj (e1.symm.trans e))
      have := e4.lt
      omega
    · rw [h2.un hl] at e
      cases e
theorem J3.call1 (h : J3 B ta tb L a w) (hL : L.size = 8) (ht : 22 < a.tmps.size) (hB : B ≤ w.heap.size) (hx : Ext w w') {l : List Value} (hl : DNodeV (fun b => w.heap.size ≤ b) w' ta l) : J3 B ta tb (L.setIfInBounds 1 true) (a.put (some 20) (.agg l.toArray)) w' := by
  have hl' : DNodeV (Sx B a) w' ta l := hl.mono (fun b _ hb => h.fresh hB hb)
  obtain ⟨h1, h2, h3⟩ := h
  refine ⟨h1.call hx hl' (by omega) (by omega) (by omega) (by omega) (by omega) (by omega) (by omega), h2.move (flag_other (by omega)) (flag_other (by omega)) (flag_other (by omega)) (put_other (by omega)) (put_other (by omega)) (fun l hl => by rw [Sx_put (by omega) (by omega)]; exact hl.keep hx) (fun g l _ hb => hb.keep hx), fun e1 e2 => ?_⟩
  rw [flag_other (by omega)] at e1 e2
  rw [put_other (by omega), put_other (by omega)]
  exact h3 e1 e2
theorem J3.call3 (h : J3 B ta tb L a w) (hL : L.size = 8) (ht : 22 < a.tmps.size) (hB : B ≤ w.heap.size) (hx : Ext w w') {l : List Value} (hl : DNodeV (fun b => w.heap.size ≤ b) w' tb l) : J3 B ta tb (L.setIfInBounds 3 true) (a.put (some 22) (.agg l.toArray)) w' := by
  have hl' : DNodeV (Sx B a) w' tb l := hl.mono (fun b _ hb => h.fresh hB hb)
  obtain ⟨h1, h2, h3⟩ := h
  refine ⟨h1.move (flag_other (by omega)) (flag_other (by omega)) (flag_other (by omega)) (put_other (by omega)) (put_other (by omega)) (fun l hl => by rw [Sx_put (by omega) (by omega)]; exact hl.keep hx) (fun g l _ hb => hb.keep hx), h2.call hx hl' (by omega) (by omega) (by omega) (by omega) (by omega) (by omega) (by omega), fun e1 e2 => ?_⟩
  rw [flag_other (by omega)] at e1 e2
  rw [put_other (by omega), put_other (by omega)]
  exact h3 e1 e2
theorem J3.new5 (h : J3 B ta tb L a w) (hL : L.size = 8) (ht : 22 < a.tmps.size) (hn : L[4]? = some false) (hB : B ≤ w.heap.size) : J3 B ta tb (L.setIfInBounds 4 true) (a.put (some 5) (ptrV w.heap.size)) (w.alloc (.cells Tryd.zeroCells34 34)) := by
  obtain ⟨h1, h2, _⟩ := h
  refine ⟨h1.new hn hB (by omega) (by omega) (by omega) (by omega) (by omega) (.inl rfl), h2.newO (by omega) (by omega) (by omega) (by omega) (by omega) (by omega) (.inl rfl), fun _ e2 => ?_⟩
  rw [flag_other (by omega)] at e2
  rw [put_own (by omega), put_other (by omega)]
  obtain ⟨g, l, e1, _, _, e4, _⟩ := h2.bl e2
  rw [e1]
  intro e
  have := ptrV_inj (Option.some.inj e)
  have := e4.lt
  omega
theorem J3.new6 (h : J3 B ta tb L a w) (hL : L.size = 8) (ht : 22 < a.tmps.size) (hn : L[5]? = some false) (hB : B ≤ w.heap.size) : J3 B ta tb (L.setIfInBounds 5 true) (a.put (some 6) (ptrV w.heap.size)) (w.alloc (.cells Tryd.zeroCells34 34)) := by
  obtain ⟨h1, h2, _⟩ := h
  refine ⟨h1.newO (by omega) (by omega) (by omega) (by omega) (by omega) (by omega) (.inr rfl), h2.new hn hB (by omega) (by omega) (by omega) (by omega) (by omega) (.inr rfl), fun e1 _ => ?_⟩
  rw [flag_other (by omega)] at e1
  rw [put_other (by omega), put_own (by omega)]
  obtain ⟨g, l, f1, _, _, f4, _⟩ := h1.bl e1
  rw [f1]
  intro e
  have := ptrV_inj (Option.some.inj e)
  have := f4.lt
  omega
theorem J3.fill5 (h : J3 B ta tb L a w) (hL : L.size = 8) (hc : L[1]? = some true) (hy : L[4]? = some true) {g : Nat} (hg : a.tmps[5]? = some (ptrV g)) {l : List Value} (hl : a.tmps[20]? = some (.agg l.toArray)) : J3 B ta tb (L.setIfInBounds 6 true) a (w.setRow g l.toArray) := by
  obtain ⟨h1, h2, h3⟩ := h
  refine ⟨h1.fill hc hy (by omega) (by omega) (by omega) (.inl rfl) hg hl, ?_, fun e1 e2 => ?_⟩
  · refine h2.fillO (by omega) (by omega) (by omega) (.inl rfl) hg (fun e => ?_) _
    by_cases h5 : L[5]? = some true
    · exact h3 hy h5 (hg.trans e.symm)
    · rw [h2.un h5] at e; cases e
  · rw [flag_other (by omega)] at e1 e2
    exact h3 e1 e2
theorem J3.fill6 (h : J3 B ta tb L a w) (hL : L.size = 8) (hc : L[3]? = some true) (hy : L[5]? = some true) {g : Nat} (hg : a.tmps[6]? = some (ptrV g)) {l : List Value} (hl : a.tmps[22]? = some (.agg l.toArray)) : J3 B ta tb (L.setIfInBounds 7 true) a (w.setRow g l.toArray) := by
  obtain ⟨h1, h2, h3⟩ := h
  refine ⟨?_, h2.fill hc hy (by omega) (by omega) (by omega) (.inr rfl) hg hl, fun e1 e2 => ?_⟩
  · refine h1.fillO (by omega) (by omega) (by omega) (.inr rfl) hg (fun e => ?_) _
    by_cases h4 : L[4]? = some true
    · exact h3 h4 hy (e.trans hg.symm)
    · rw [h1.un h4] at e; cases e
  · rw [flag_other (by omega)] at e1 e2
    exact h3 e1 e2
end
end Go.Proofs.YtnkhiohopcadmaaDoor
namespace Go.Proofs.YtnkhiohopcadmaaDoor
open Go Go.RowKit
attribute [local irreducible] wd

theorem J3.start {B : Nat} {ta tb : T} {a : Act} {w : World} (h5 : a.tmps[5]? = some undef) (h6 : a.tmps[6]? = some undef) : J3 B ta tb (Array.replicate 8 false) a w := by
  have hno : ∀ k, ¬ (Array.replicate 8 false)[k]? = some true := fun k h => by rw [Array.getElem?_replicate] at h; split at h <;> cases h
  exact ⟨⟨fun _ => h5, fun h => absurd h (hno _), fun h => absurd h (hno _), fun h => absurd h (hno _)⟩, ⟨fun _ => h6, fun h => absurd h (hno _), fun h => absurd h (hno _), fun h => absurd h (hno _)⟩, fun h => absurd h (hno _)⟩
theorem rowB {B : Nat} {w w' : World} (h : Below B w w') (g : Nat) (cs : Array Value) (hg : B ≤ g) : Below B w (w'.setRow g cs) :=
  ⟨h.os, h.tape, h.output, by rw [setRow_size]; exact h.size, fun k hk => (setRow_other w' g k cs (by omega)).trans (h.block k hk)⟩

set_option maxHeartbeats 16000000 in
set_option maxRecDepth 20000 in
theorem lawTells (E : Nat → Addr) (ta tb : T) (S S' : Nat → Prop) (va vb : List Value) (w : World) (ha : NodeV S w ta va) (hb : NodeV S' w tb vb) (hE : Env E w) :
    Calls Tryd.prog 3 #[.agg va.toArray, .agg vb.toArray] w fun e w' => e = .returned (.bool true) ∧ Ext w w' := by
  obtain ⟨ka, ma, za, pa, Ba, na, ca, rfl⟩ := nodeV_form ha
  obtain ⟨kb, mb, zb, pb, Bb, nb, cb, rfl⟩ := nodeV_form hb
  have hx1 := Ext.new1 w (.cells (nodeC ka ma za pa Ba na ca).toArray 27)
  have hx2 := Ext.new1 (w.alloc (.cells (nodeC ka ma za pa Ba na ca).toArray 27)) (.cells (nodeC kb mb zb pb Bb nb cb).toArray 27)
  have hx0 := Lib.hid (Ext.trans hx1 hx2)
  have HVA := Lib.hid (ha.keep hx0.out)
  have HVB := Lib.hid (hb.keep hx0.out)
  have HBA := Lib.hid ((NodeB.new w ka ma za pa Ba na ca).keep hx2)
  have HBB := Lib.hid (NodeB.new (w.alloc (.cells (nodeC ka ma za pa Ba na ca).toArray 27)) kb mb zb pb Bb nb cb)
  have HE := Lib.hid (hE.keep hx0.out)
  rw [show (w.alloc (.cells (nodeC ka ma za pa Ba na ca).toArray 27)).heap.size = w.heap.size + 1 by simp] at HBB
  clear ha hb hE hx1 hx2
  unfold nodeC at hx0 HVA HVB HBA HBB HE ⊢
  cases hga : ta.great
  rotate_left
  · have HGA := Lib.hid hga
    clear hga
    go_enter Tryd.func3, Tryd.ntmps3
    go_wp2_with (first
      | (have := hx1; go_at_call 10; refine (lawGreat ta S _ (nodeC ka ma za pa Ba na ca) (HVA.out.keep hx1)).mono ?_; rintro e w2 ⟨rfl, hx2⟩; rw [HGA.out]; obtain ⟨x0, x1, x2, x3, x4, x5, x6, x7⟩ := (HBB.out.keep (Ext.trans hx1 hx2)).cells)
      | (go_at_call 9; refine (alive23 E _ HE.out).mono ?_; rintro e w1 ⟨rfl, hx1⟩; obtain ⟨q0, q1, q2, q3, q4, q5, q6, q7⟩ := (HBA.out.keep hx1).cells))
    go_ret
    exact ⟨rfl, Ext.trans hx0.out (Ext.trans hx1 hx2)⟩
  cases hgb : tb.great
  rotate_left
  · have HGA := Lib.hid hga
    have HGB := Lib.hid hgb
    clear hga hgb
    go_enter Tryd.func3, Tryd.ntmps3
    go_wp2_with (first
      | (have := hx2; go_at_call 10; refine (lawGreat tb S' _ (nodeC kb mb zb pb Bb nb cb) (HVB.out.keep (Ext.trans hx1 hx2))).mono ?_; rintro e w3 ⟨rfl, hx3⟩; rw [HGB.out])
      | (have := hx1; go_at_call 10; refine (lawGreat ta S _ (nodeC ka ma za pa Ba na ca) (HVA.out.keep hx1)).mono ?_; rintro e w2 ⟨rfl, hx2⟩; rw [HGA.out]; obtain ⟨x0, x1, x2, x3, x4, x5, x6, x7⟩ := (HBB.out.keep (Ext.trans hx1 hx2)).cells)
      | (go_at_call 9; refine (alive23 E _ HE.out).mono ?_; rintro e w1 ⟨rfl, hx1⟩; obtain ⟨q0, q1, q2, q3, q4, q5, q6, q7⟩ := (HBA.out.keep hx1).cells))
    go_ret
    exact ⟨rfl, Ext.trans hx0.out (Ext.trans hx1 (Ext.trans hx2 hx3))⟩
  have HSA := Lib.hid (great_size hga)
  have HSB := Lib.hid (great_size hgb)
  have HGA := Lib.hid hga
  have HGB := Lib.hid hgb
  clear hga hgb
  go_enter Tryd.func3, Tryd.ntmps3
  go_upto_region 5 with (first
    | (have := hx2; go_at_call 10; refine (lawGreat tb S' _ (nodeC kb mb zb pb Bb nb cb) (HVB.out.keep (Ext.trans hx1 hx2))).mono ?_; rintro e w3 ⟨rfl, hx3⟩; rw [HGB.out])
    | (have := hx1; go_at_call 10; refine (lawGreat ta S _ (nodeC ka ma za pa Ba na ca) (HVA.out.keep hx1)).mono ?_; rintro e w2 ⟨rfl, hx2⟩; rw [HGA.out]; obtain ⟨x0, x1, x2, x3, x4, x5, x6, x7⟩ := (HBB.out.keep (Ext.trans hx1 hx2)).cells)
    | (go_at_call 9; refine (alive23 E _ HE.out).mono ?_; rintro e w1 ⟨rfl, hx1⟩; obtain ⟨q0, q1, q2, q3, q4, q5, q6, q7⟩ := (HBA.out.keep hx1).cells))
  have hxw := Ext.trans hx1 (Ext.trans hx2 hx3)
  have HVA1 := Lib.hid (HVA.out.keep hxw)
  have HVB1 := Lib.hid (HVB.out.keep hxw)
  have HBA1 := Lib.hid (HBA.out.keep hxw)
  have HBB1 := Lib.hid (HBB.out.keep hxw)
  have HE1 := Lib.hid (HE.out.keep hxw)
  have HX1 := Lib.hid (Ext.trans hx0.out hxw)
  clear hx1 hx2 hx3 hxw HVA HVB HBA HBB HE hx0 HGA HGB q0 q1 q2 q3 q4 q5 q6 q7 x0 x1 x2 x3 x4 x5 x6 x7
  generalize w.heap.size + 1 = gB at *
  generalize w.heap.size = gA at *
  generalize w3 = wk at *
  refine wp_region_dagJ (E := fun w w' => Below wk.heap.size w w') (J := J3 wk.heap.size ta tb) (w0 := wk) (Φ := fun i v _ => match i with | 0 => v = .agg #[.int .i64 ka, .int .i64 ma, .bool za, .int .u64 (wd pa 0 : Nat), .int .u64 (wd pa 1 : Nat), .int .u64 (wd pa 2 : Nat), .int .u64 (wd pa 3 : Nat), .slice Ba na ca] | 2 => v = .agg #[.int .i64 kb, .int .i64 mb, .bool zb, .int .u64 (wd pb 0 : Nat), .int .u64 (wd pb 1 : Nat), .int .u64 (wd pb 2 : Nat), .int .u64 (wd pb 3 : Nat), .slice Bb nb cb] | _ => True) (show Tryd.prog.follows .mixedOrders = true from Checked.mixed Tryd.checked) 71 rfl (by decide +kernel) ?_ (J3.start rfl rfl) ((Below.refl _ _).drew) ?_ ⟨?_, ?_, ?_, ?_, ?_, ?_, ?_, ?_, trivial⟩ ?_
  · intro i v w w' h _
    exact h
  · exact fun w w' h h' => h.trans h'
  · -- 0
    intro L ac wx hE hJ hL hn hh hsz hdf h
    have e2 : ac.tmps[2]? = some (.pointer (some ⟨gA, 0, none⟩)) := by obtain ⟨v, h1, h2⟩ := h 2 (by decide +kernel); exact h1.trans (h2.symm.trans rfl)
    obtain ⟨y0, y1, y2, y3, y4, y5, y6, y7⟩ := (HBA1.out.keep hE).cells
    clear h hsz hdf hh hn hL
    go_wp2
    exact ⟨_, rfl, rfl, Below.refl _ _, hJ.easy (Ext.refl _) _ (by omega) (by omega)⟩
  · -- 1
    intro L ac wx hE hJ hL hn hh hsz hdf h
    have e19 : ac.tmps[19]? = some (.agg #[.int .i64 ka, .int .i64 ma, .bool za, .int .u64 (wd pa 0 : Nat), .int .u64 (wd pa 1 : Nat), .int .u64 (wd pa 2 : Nat), .int .u64 (wd pa 3 : Nat), .slice Ba na ca]) := by obtain ⟨v, h1, h2⟩ := h 19 (by decide +kernel); rw [h1]; exact congrArg some h2
    have hsz' : 22 < ac.tmps.size := by rw [hsz]; exact (by decide : 22 < 71)
    clear h hsz hdf hh hn
    go_wp2_with (go_at_call 11; refine (lawOf _ ta (Nat.le_refl _) (by have := HSA.out; omega) _ _ (nodeC ka ma za pa Ba na ca) (HVA1.out.keep hE)).mono ?_; rintro e w9 ⟨l9, rfl, hl9, hb9⟩)
    exact ⟨_, rfl, trivial, Below.mono hb9 hE.size, hJ.call1 hL hsz' hE.size hb9 hl9⟩
  · -- 2
    intro L ac wx hE hJ hL hn hh hsz hdf h
    have e3 : ac.tmps[3]? = some (.pointer (some ⟨gB, 0, none⟩)) := by obtain ⟨v, h1, h2⟩ := h 3 (by decide +kernel); exact h1.trans (h2.symm.trans rfl)
    obtain ⟨y0, y1, y2, y3, y4, y5, y6, y7⟩ := (HBB1.out.keep hE).cells
    clear h hsz hdf hh hn hL
    go_wp2
    exact ⟨_, rfl, rfl, Below.refl _ _, hJ.easy (Ext.refl _) _ (by omega) (by omega)⟩
  · -- 3
    intro L ac wx hE hJ hL hn hh hsz hdf h
    have e21 : ac.tmps[21]? = some (.agg #[.int .i64 kb, .int .i64 mb, .bool zb, .int .u64 (wd pb 0 : Nat), .int .u64 (wd pb 1 : Nat), .int .u64 (wd pb 2 : Nat), .int .u64 (wd pb 3 : Nat), .slice Bb nb cb]) := by obtain ⟨v, h1, h2⟩ := h 21 (by decide +kernel); rw [h1]; exact congrArg some h2
    have hsz' : 22 < ac.tmps.size := by rw [hsz]; exact (by decide : 22 < 71)
    clear h hsz hdf hh hn
    go_wp2_with (go_at_call 11; refine (lawOf _ tb (Nat.le_refl _) (by have := HSB.out; omega) _ _ (nodeC kb mb zb pb Bb nb cb) (HVB1.out.keep hE)).mono ?_; rintro e w9 ⟨l9, rfl, hl9, hb9⟩)
    exact ⟨_, rfl, trivial, Below.mono hb9 hE.size, hJ.call3 hL hsz' hE.size hb9 hl9⟩
  · -- 4
    intro L ac wx hE hJ hL hn hh hsz hdf h
    have hk := hJ.new5 hL (by rw [hsz]; exact (by decide : 22 < 71)) hn hE.size
    unfold ptrV at hk
    clear h hsz hdf hh hn hL
    go_wp2
    exact ⟨_, rfl, trivial, (Below.refl _ _).alloc hE.size _, hk⟩
  · -- 5
    intro L ac wx hE hJ hL hn hh hsz hdf h
    have hk := hJ.new6 hL (by rw [hsz]; exact (by decide : 22 < 71)) hn hE.size
    unfold ptrV at hk
    clear h hsz hdf hh hn hL
    go_wp2
    exact ⟨_, rfl, trivial, (Below.refl _ _).alloc hE.size _, hk⟩
  · -- 6
    intro L ac wx hE hJ hL hn hh hsz hdf h
    have hc := hh 1 (by decide +kernel)
    have hy := hh 4 (by decide +kernel)
    obtain ⟨g, l0, hg, hBg, hlen, hb, _⟩ := hJ.1.bl hy
    obtain ⟨l, hq, hD⟩ := hJ.1.va hc
    obtain ⟨k9, m9, z9, p9, B9, n9, c9, rfl⟩ := dnodeV_form hD
    have hk := hJ.fill5 hL hc hy hg hq
    unfold ptrV at hg
    clear h hsz hdf hh hn hL hJ hD hE
    refine store_dn rfl (.tmp 5) (.tmp 20) rfl (g := g) (k := k9) (m := m9) (z := z9) (p := p9) (A := B9) (n := n9) (c := c9) ?_ ?_ hb hlen ?_
    · simp [Act.eval, hg]
    · simp [Act.eval, hq]
    · exact ⟨undef, rfl, trivial, rowB (Below.refl _ _) _ _ hBg, hk⟩
  · -- 7
    intro L ac wx hE hJ hL hn hh hsz hdf h
    have hc := hh 3 (by decide +kernel)
    have hy := hh 5 (by decide +kernel)
    obtain ⟨g, l0, hg, hBg, hlen, hb, _⟩ := hJ.2.1.bl hy
    obtain ⟨l, hq, hD⟩ := hJ.2.1.va hc
    obtain ⟨k9, m9, z9, p9, B9, n9, c9, rfl⟩ := dnodeV_form hD
    have hk := hJ.fill6 hL hc hy hg hq
    unfold ptrV at hg
    clear h hsz hdf hh hn hL hJ hD hE
    refine store_dn rfl (.tmp 6) (.tmp 22) rfl (g := g) (k := k9) (m := m9) (z := z9) (p := p9) (A := B9) (n := n9) (c := c9) ?_ ?_ hb hlen ?_
    · simp [Act.eval, hg]
    · simp [Act.eval, hq]
    · exact ⟨undef, rfl, trivial, rowB (Below.refl _ _) _ _ hBg, hk⟩
  · intro L ac w9 hJ hL hE hsz hdf h hrest
    obtain ⟨hJ1, hJ2, hJ3⟩ := hJ
    obtain ⟨l20, hq20, -⟩ := hJ1.va (hL 1 (by decide))
    obtain ⟨l22, hq22, -⟩ := hJ2.va (hL 3 (by decide))
    obtain ⟨gx, lx, hg5, hBx, -, hbx, hdx⟩ := hJ1.bl (hL 4 (by decide))
    obtain ⟨gy, ly, hg6, hBy, -, hby, hdy⟩ := hJ2.bl (hL 5 (by decide))
    have hdx := hdx (hL 6 (by decide))
    have hdy := hdy (hL 7 (by decide))
    clear hJ1 hJ2 hJ3
    obtain ⟨kx, mx, zx, px, Bx, nx, cx, rfl⟩ := dnodeV_form hdx
    obtain ⟨ky, my, zy, py, By, ny, cy, rfl⟩ := dnodeV_form hdy
    have HE9 := Lib.hid (show Ext wk w9 from hE)
    have HBX := Lib.hid (show DB w9 gx kx mx zx px Bx nx cx from hbx)
    have HBY := Lib.hid (show DB w9 gy ky my zy py By ny cy from hby)
    have HVX := Lib.hid (hdx.mono (S' := fun _ => True) (fun _ _ _ => trivial))
    have HVY := Lib.hid (hdy.mono (S' := fun _ => True) (fun _ _ _ => trivial))
    have HNE := Lib.hid (show 0 ≤ 1 by omega)
    clear hbx hby hdx hdy hBx hBy hE hL
    unfold ptrV at hg5 hg6
    obtain ⟨v0, s0, g0⟩ := h 0 _ rfl
    have e0 := g0 19 rfl
    obtain rfl : v0 = .agg #[.int .i64 ka, .int .i64 ma, .bool za, .int .u64 (wd pa 0 : Nat), .int .u64 (wd pa 1 : Nat), .int .u64 (wd pa 2 : Nat), .int .u64 (wd pa 3 : Nat), .slice Ba na ca] := s0
    obtain ⟨v2, s2, g2⟩ := h 2 _ rfl
    have e2 := g2 21 rfl
    obtain rfl : v2 = .agg #[.int .i64 kb, .int .i64 mb, .bool zb, .int .u64 (wd pb 0 : Nat), .int .u64 (wd pb 1 : Nat), .int .u64 (wd pb 2 : Nat), .int .u64 (wd pb 3 : Nat), .slice Bb nb cb] := s2
    have ha := act_of [(19, .agg #[.int .i64 ka, .int .i64 ma, .bool za, .int .u64 (wd pa 0 : Nat), .int .u64 (wd pa 1 : Nat), .int .u64 (wd pa 2 : Nat), .int .u64 (wd pa 3 : Nat), .slice Ba na ca]), (20, .agg l20.toArray), (21, .agg #[.int .i64 kb, .int .i64 mb, .bool zb, .int .u64 (wd pb 0 : Nat), .int .u64 (wd pb 1 : Nat), .int .u64 (wd pb 2 : Nat), .int .u64 (wd pb 3 : Nat), .slice Bb nb cb]), (22, .agg l22.toArray), (5, .pointer (some ⟨gx, 0, none⟩)), (6, .pointer (some ⟨gy, 0, none⟩))] rfl hsz hdf (by intro p hp; simp only [List.mem_cons, List.not_mem_nil, or_false] at hp; rcases hp with rfl | rfl | rfl | rfl | rfl | rfl <;> first | exact e0 | exact e2 | exact hq20 | exact hq22 | exact hg5 | exact hg6) hrest
    clear h hrest hsz hdf e0 e2 g0 g2 hq20 hq22 hg5 hg6
    subst ha
    simp only [List.foldl_cons, List.foldl_nil, Act.put, List.setIfInBounds_toArray, List.set_cons_succ, List.set_cons_zero]
    have HVA9 := Lib.hid (HVA1.out.keep HE9.out)
    have HVB9 := Lib.hid (HVB1.out.keep HE9.out)
    have HBA9 := Lib.hid (HBA1.out.keep HE9.out)
    have HBB9 := Lib.hid (HBB1.out.keep HE9.out)
    have HEE9 := Lib.hid (HE1.out.keep HE9.out)
    have HX9 := Lib.hid (Ext.trans HX1.out HE9.out)
    clear HVA1 HVB1 HBA1 HBB1 HE1 HX1 HE9 HNE
    generalize Value.agg l20.toArray = u20
    generalize Value.agg l22.toArray = u22
    cases hr : (ta.right 1 0).1
    · have HR := Lib.hid hr
      have HTX := Lib.hid (show textR ta = [] from by unfold textR; rw [hr]; rfl)
      clear hr
      go_upto_region 11 with (first
        | (have := hx1; go_at_call 14; refine (refCount _ ta (Nat.le_refl _) (by have := HSA.out; omega) _ _ (dnC kx mx zx px Bx nx cx) (HVX.out.keep hx1)).mono ?_; rintro e w11 ⟨rfl, hx3⟩)
        | (go_at_call 12; refine (refRightD ta (by have := HSA.out; omega) _ _ (dnC kx mx zx px Bx nx cx) HVX.out).mono ?_; rintro e w10 ⟨rfl, hx1⟩; rw [HR.out])
        | (refine load_dn rfl (.tmp 5) rfl (g := gx) rfl (HBX.out.keep hx1) ?_)
        | (refine load_dn rfl (.tmp 5) rfl (g := gx) rfl (HBX.out) ?_))
      have hx := Ext.trans hx1 hx3
      have HVA2 := Lib.hid (HVA9.out.keep hx)
      have HVB2 := Lib.hid (HVB9.out.keep hx)
      have HBA2 := Lib.hid (HBA9.out.keep hx)
      have HBB2 := Lib.hid (HBB9.out.keep hx)
      have HEE2 := Lib.hid (HEE9.out.keep hx)
      have HBX2 := Lib.hid (HBX.out.keep hx)
      have HBY2 := Lib.hid (HBY.out.keep hx)
      have HVX2 := Lib.hid (HVX.out.keep hx)
      have HVY2 := Lib.hid (HVY.out.keep hx)
      have HX2 := Lib.hid (Ext.trans HX9.out hx)
      clear HVA9 HVB9 HBA9 HBB9 HEE9 HBX HBY HVX HVY HX9 hx hx1 hx3
      obtain ⟨sz, hsz⟩ : ∃ sz, ta.size = sz := ⟨_, rfl⟩
      obtain ⟨gr, hgr⟩ : ∃ gr, ta.groups = gr := ⟨_, rfl⟩
      obtain ⟨sm, hsm⟩ : ∃ sm, ta.same tb = sm := ⟨_, rfl⟩
      obtain ⟨nl, hnl⟩ : ∃ nl, ta.nullable = nl := ⟨_, rfl⟩
      have HSZ := Lib.hid hsz
      have HGR := Lib.hid hgr
      have HSM := Lib.hid hsm
      have HNL := Lib.hid hnl
      rw [hsz, hgr]
      clear hsz hgr hsm hnl
      generalize w11 = wl at *
      refine wp_region_dag (E := Ext) (w0 := wl) (Φ := fun i v w => match i with | 0 => (v = .agg #[.int .i64 ka, .int .i64 ma, .bool za, .int .u64 (wd pa 0 : Nat), .int .u64 (wd pa 1 : Nat), .int .u64 (wd pa 2 : Nat), .int .u64 (wd pa 3 : Nat), .slice Ba na ca]) | 1 => (v = .bool false) | 2 => (v = .bool false) | 3 => (v = .bool true) | 4 => (v = .bool true) | 5 => (v = .agg #[.int .i64 ka, .int .i64 ma, .bool za, .int .u64 (wd pa 0 : Nat), .int .u64 (wd pa 1 : Nat), .int .u64 (wd pa 2 : Nat), .int .u64 (wd pa 3 : Nat), .slice Ba na ca]) | 6 => (v = .string ⟨[].toArray⟩) | 7 => (v = .string ⟨[].toArray⟩) | 8 => (v = .bool true) | 9 => (v = .bool true) | 10 => (v = .bool true) | 11 => (v = .agg #[.int .i64 ka, .int .i64 ma, .bool za, .int .u64 (wd pa 0 : Nat), .int .u64 (wd pa 1 : Nat), .int .u64 (wd pa 2 : Nat), .int .u64 (wd pa 3 : Nat), .slice Ba na ca]) | 12 => (v = .agg #[.int .i64 kb, .int .i64 mb, .bool zb, .int .u64 (wd pb 0 : Nat), .int .u64 (wd pb 1 : Nat), .int .u64 (wd pb 2 : Nat), .int .u64 (wd pb 3 : Nat), .slice Bb nb cb]) | 13 => (v = .bool sm) | 14 => (v = .agg (dnC kx mx zx px Bx nx cx).toArray) | 15 => (v = .agg (dnC ky my zy py By ny cy).toArray) | 16 => (v = .bool sm) | 17 => (v = .bool true) | 18 => (v = .bool true) | 19 => (v = .bool true) | 20 => (v = .agg #[.int .i64 ka, .int .i64 ma, .bool za, .int .u64 (wd pa 0 : Nat), .int .u64 (wd pa 1 : Nat), .int .u64 (wd pa 2 : Nat), .int .u64 (wd pa 3 : Nat), .slice Ba na ca]) | 21 => (v = .bool nl) | 22 => (v = .agg (dnC kx mx zx px Bx nx cx).toArray) | 23 => (v = .bool nl) | 24 => (v = .bool true) | 25 => (v = .bool true) | 26 => (v = .bool true) | 27 => (v = .agg #[.int .i64 ka, .int .i64 ma, .bool za, .int .u64 (wd pa 0 : Nat), .int .u64 (wd pa 1 : Nat), .int .u64 (wd pa 2 : Nat), .int .u64 (wd pa 3 : Nat), .slice Ba na ca]) | 28 => (v = .int .i64 (sz : Nat)) | 29 => (v = .int .i64 (sz : Nat)) | 30 => (v = .bool true) | 31 => (v = .bool true) | 32 => (v = .bool true) | 33 => (v = .agg #[.int .i64 ka, .int .i64 ma, .bool za, .int .u64 (wd pa 0 : Nat), .int .u64 (wd pa 1 : Nat), .int .u64 (wd pa 2 : Nat), .int .u64 (wd pa 3 : Nat), .slice Ba na ca]) | 34 => (v = .int .i64 (gr : Nat)) | 35 => (v = .int .i64 (gr : Nat)) | 36 => (v = .bool true) | 37 => (v = .bool true) | 38 => (v = .bool true) | _ => True) (show Tryd.prog.follows .mixedOrders = true from Checked.mixed Tryd.checked) 71 rfl (by decide +kernel) ?_ ((Below.refl _ _).drew) ?_ ⟨?_, ?_, ?_, ?_, ?_, ?_, ?_, ?_, ?_, ?_, ?_, ?_, ?_, ?_, ?_, ?_, ?_, ?_, ?_, ?_, ?_, ?_, ?_, ?_, ?_, ?_, ?_, ?_, ?_, ?_, ?_, ?_, ?_, ?_, ?_, ?_, ?_, ?_, ?_, trivial⟩ ?_
      · intro i v w w' h hE
        match i, h with
        | 0, h => exact h
        | 1, h => exact h
        | 2, h => exact h
        | 3, h => exact h
        | 4, h => exact h
        | 5, h => exact h
        | 6, h => exact h
        | 7, h => exact h
        | 8, h => exact h
        | 9, h => exact h
        | 10, h => exact h
        | 11, h => exact h
        | 12, h => exact h
        | 13, h => exact h
        | 14, h => exact h
        | 15, h => exact h
        | 16, h => exact h
        | 17, h => exact h
        | 18, h => exact h
        | 19, h => exact h
        | 20, h => exact h
        | 21, h => exact h
        | 22, h => exact h
        | 23, h => exact h
        | 24, h => exact h
        | 25, h => exact h
        | 26, h => exact h
        | 27, h => exact h
        | 28, h => exact h
        | 29, h => exact h
        | 30, h => exact h
        | 31, h => exact h
        | 32, h => exact h
        | 33, h => exact h
        | 34, h => exact h
        | 35, h => exact h
        | 36, h => exact h
        | 37, h => exact h
        | 38, h => exact h
        | _ + 39, _ => trivial
      · exact fun w w' h h' => h.trans h'
      · -- 0: t33 := load 28 t2 
        intro ac wx hE hsz hdf h
        have e2 : ac.tmps[2]? = some (.pointer (some ⟨gA, 0, none⟩)) := by obtain ⟨v, h1, h2⟩ := h 2 (by decide +kernel); exact h1.trans (h2.symm.trans rfl)
        clear h hsz hdf
        obtain ⟨y0, y1, y2, y3, y4, y5, y6, y7⟩ := (HBA2.out.keep hE).cells
        go_wp2
        exact ⟨_, rfl, rfl, Ext.refl _⟩
      · -- 1: t34 := call { value (Operand.func 17), args := #[t33], argTypes := #[28] } 
        intro ac wx hE hsz hdf h
        have e33 : ac.tmps[33]? = some (.agg #[.int .i64 ka, .int .i64 ma, .bool za, .int .u64 (wd pa 0 : Nat), .int .u64 (wd pa 1 : Nat), .int .u64 (wd pa 2 : Nat), .int .u64 (wd pa 3 : Nat), .slice Ba na ca]) := by obtain ⟨v, h1, h2⟩ := h 33 (by decide +kernel); rw [h1]; exact congrArg some h2
        clear h hsz hdf
        go_wp2_with ((go_at_call 15; refine (rxRight ta (by have := HSA.out; omega) _ _ (nodeC ka ma za pa Ba na ca) (HVA2.out.keep hE)).mono ?_; rintro e w9 ⟨rfl, hb9⟩; rw [HR.out]))
        exact ⟨_, rfl, rfl, hb9⟩
      · -- 2: t35 := move t7 
        intro ac wx hE hsz hdf h
        have e7 : ac.tmps[7]? = some (.bool false) := by obtain ⟨v, h1, h2⟩ := h 7 (by decide +kernel); exact h1.trans (h2.symm.trans rfl)
        clear h hsz hdf
        go_wp2
        exact ⟨_, rfl, rfl, Ext.refl _⟩
      · -- 3: t36 := binOp BinOp.eql 4 t34 t35 4 
        intro ac wx hE hsz hdf h
        have e34 : ac.tmps[34]? = some (.bool false) := by obtain ⟨v, h1, h2⟩ := h 34 (by decide +kernel); rw [h1]; exact congrArg some h2
        have e35 : ac.tmps[35]? = some (.bool false) := by obtain ⟨v, h1, h2⟩ := h 35 (by decide +kernel); rw [h1]; exact congrArg some h2
        clear h hsz hdf
        go_wp2
        exact ⟨_, rfl, rfl, Ext.refl _⟩
      · -- 4: t37 := move t36 
        intro ac wx hE hsz hdf h
        have e36 : ac.tmps[36]? = some (.bool true) := by obtain ⟨v, h1, h2⟩ := h 36 (by decide +kernel); rw [h1]; exact congrArg some h2
        clear h hsz hdf
        go_wp2
        exact ⟨_, rfl, rfl, Ext.refl _⟩
      · -- 5: t38 := load 28 t2 (4, True)
        intro ac wx hE hsz hdf h
        have e2 : ac.tmps[2]? = some (.pointer (some ⟨gA, 0, none⟩)) := by obtain ⟨v, h1, h2⟩ := h 2 (by decide +kernel); exact h1.trans (h2.symm.trans rfl)
        have e37 : ac.tmps[37]? = some (.bool true) := by obtain ⟨v, h1, h2⟩ := h 37 (by decide +kernel); rw [h1]; exact congrArg some h2
        clear h hsz hdf
        obtain ⟨y0, y1, y2, y3, y4, y5, y6, y7⟩ := (HBA2.out.keep hE).cells
        go_wp2
        exact ⟨_, rfl, rfl, Ext.refl _⟩
      · -- 6: t39 := call { value (Operand.func 18), args := #[t38], argTypes := #[28] } (4, True)
        intro ac wx hE hsz hdf h
        have e38 : ac.tmps[38]? = some (.agg #[.int .i64 ka, .int .i64 ma, .bool za, .int .u64 (wd pa 0 : Nat), .int .u64 (wd pa 1 : Nat), .int .u64 (wd pa 2 : Nat), .int .u64 (wd pa 3 : Nat), .slice Ba na ca]) := by obtain ⟨v, h1, h2⟩ := h 38 (by decide +kernel); rw [h1]; exact congrArg some h2
        have e37 : ac.tmps[37]? = some (.bool true) := by obtain ⟨v, h1, h2⟩ := h 37 (by decide +kernel); rw [h1]; exact congrArg some h2
        clear h hsz hdf
        go_wp2_with ((go_at_call 16; refine (rxText ta (by have := HSA.out; omega) _ _ (nodeC ka ma za pa Ba na ca) (HVA2.out.keep hE) (HEE2.out.t.keep hE)).mono ?_; rintro e w9 ⟨rfl, hb9⟩; rw [HTX.out]))
        exact ⟨_, rfl, rfl, hb9⟩
      · -- 7: t40 := move t8 (4, True)
        intro ac wx hE hsz hdf h
        have e8 : ac.tmps[8]? = some (.string ⟨[].toArray⟩) := by obtain ⟨v, h1, h2⟩ := h 8 (by decide +kernel); exact h1.trans (h2.symm.trans rfl)
        have e37 : ac.tmps[37]? = some (.bool true) := by obtain ⟨v, h1, h2⟩ := h 37 (by decide +kernel); rw [h1]; exact congrArg some h2
        clear h hsz hdf
        go_wp2
        exact ⟨_, rfl, rfl, Ext.refl _⟩
      · -- 8: t41 := binOp BinOp.eql 9 t39 t40 9 (4, True)
        intro ac wx hE hsz hdf h
        have e39 : ac.tmps[39]? = some (.string ⟨[].toArray⟩) := by obtain ⟨v, h1, h2⟩ := h 39 (by decide +kernel); rw [h1]; exact congrArg some h2
        have e40 : ac.tmps[40]? = some (.string ⟨[].toArray⟩) := by obtain ⟨v, h1, h2⟩ := h 40 (by decide +kernel); rw [h1]; exact congrArg some h2
        have e37 : ac.tmps[37]? = some (.bool true) := by obtain ⟨v, h1, h2⟩ := h 37 (by decide +kernel); rw [h1]; exact congrArg some h2
        clear h hsz hdf
        go_wp2
        exact ⟨_, rfl, by simp, Ext.refl _⟩
      · -- 9: t42 := pick t37 t41 (const (Value.bool false)) 
        intro ac wx hE hsz hdf h
        have e37 : ac.tmps[37]? = some (.bool true) := by obtain ⟨v, h1, h2⟩ := h 37 (by decide +kernel); rw [h1]; exact congrArg some h2
        have e41 : ac.tmps[41]? = some (.bool true) := by obtain ⟨v, h1, h2⟩ := h 41 (by decide +kernel); rw [h1]; exact congrArg some h2
        clear h hsz hdf
        go_wp2
        exact ⟨_, rfl, rfl, Ext.refl _⟩
      · -- 10: t43 := move t42 
        intro ac wx hE hsz hdf h
        have e42 : ac.tmps[42]? = some (.bool true) := by obtain ⟨v, h1, h2⟩ := h 42 (by decide +kernel); rw [h1]; exact congrArg some h2
        clear h hsz hdf
        go_wp2
        exact ⟨_, rfl, rfl, Ext.refl _⟩
      · -- 11: t44 := load 28 t2 (10, True)
        intro ac wx hE hsz hdf h
        have e2 : ac.tmps[2]? = some (.pointer (some ⟨gA, 0, none⟩)) := by obtain ⟨v, h1, h2⟩ := h 2 (by decide +kernel); exact h1.trans (h2.symm.trans rfl)
        have e43 : ac.tmps[43]? = some (.bool true) := by obtain ⟨v, h1, h2⟩ := h 43 (by decide +kernel); rw [h1]; exact congrArg some h2
        clear h hsz hdf
        obtain ⟨y0, y1, y2, y3, y4, y5, y6, y7⟩ := (HBA2.out.keep hE).cells
        go_wp2
        exact ⟨_, rfl, rfl, Ext.refl _⟩
      · -- 12: t45 := load 28 t3 (10, True)
        intro ac wx hE hsz hdf h
        have e3 : ac.tmps[3]? = some (.pointer (some ⟨gB, 0, none⟩)) := by obtain ⟨v, h1, h2⟩ := h 3 (by decide +kernel); exact h1.trans (h2.symm.trans rfl)
        have e43 : ac.tmps[43]? = some (.bool true) := by obtain ⟨v, h1, h2⟩ := h 43 (by decide +kernel); rw [h1]; exact congrArg some h2
        clear h hsz hdf
        obtain ⟨y0, y1, y2, y3, y4, y5, y6, y7⟩ := (HBB2.out.keep hE).cells
        go_wp2
        exact ⟨_, rfl, rfl, Ext.refl _⟩
      · -- 13: t46 := call { value (Operand.func 19), args := #[t44, t45], argTypes := #[28, 28] } (10, True)
        intro ac wx hE hsz hdf h
        have e44 : ac.tmps[44]? = some (.agg #[.int .i64 ka, .int .i64 ma, .bool za, .int .u64 (wd pa 0 : Nat), .int .u64 (wd pa 1 : Nat), .int .u64 (wd pa 2 : Nat), .int .u64 (wd pa 3 : Nat), .slice Ba na ca]) := by obtain ⟨v, h1, h2⟩ := h 44 (by decide +kernel); rw [h1]; exact congrArg some h2
        have e45 : ac.tmps[45]? = some (.agg #[.int .i64 kb, .int .i64 mb, .bool zb, .int .u64 (wd pb 0 : Nat), .int .u64 (wd pb 1 : Nat), .int .u64 (wd pb 2 : Nat), .int .u64 (wd pb 3 : Nat), .slice Bb nb cb]) := by obtain ⟨v, h1, h2⟩ := h 45 (by decide +kernel); rw [h1]; exact congrArg some h2
        have e43 : ac.tmps[43]? = some (.bool true) := by obtain ⟨v, h1, h2⟩ := h 43 (by decide +kernel); rw [h1]; exact congrArg some h2
        clear h hsz hdf
        go_wp2_with ((go_at_call 17; refine (rxSame _ ta (Nat.le_refl _) tb _ _ _ (nodeC ka ma za pa Ba na ca) (nodeC kb mb zb pb Bb nb cb) (HVA2.out.keep hE) (HVB2.out.keep hE)).mono ?_; rintro e w9 ⟨rfl, hb9⟩; rw [HSM.out]))
        exact ⟨_, rfl, rfl, hb9⟩
      · -- 14: t47 := load 40 t5 (10, True)
        intro ac wx hE hsz hdf h
        have eg : ac.tmps[43]? = some (.bool true) := by obtain ⟨v, h1, h2⟩ := h 43 (by decide +kernel); rw [h1]; exact congrArg some h2
        have es : ac.tmps[5]? = some (.pointer (some ⟨gx, 0, none⟩)) := by obtain ⟨v, h1, h2⟩ := h 5 (by decide +kernel); exact h1.trans (h2.symm.trans rfl)
        clear h hsz hdf
        refine load_dnH (j := 10) (b0 := true) (d := 43) rfl rfl eg (.tmp 5) rfl (g := gx) ?_ (HBX2.out.keep hE) ?_
        · simp [Act.eval, es]
        · exact ⟨_, rfl, rfl, Ext.refl _⟩
      · -- 15: t48 := load 40 t6 (10, True)
        intro ac wx hE hsz hdf h
        have eg : ac.tmps[43]? = some (.bool true) := by obtain ⟨v, h1, h2⟩ := h 43 (by decide +kernel); rw [h1]; exact congrArg some h2
        have es : ac.tmps[6]? = some (.pointer (some ⟨gy, 0, none⟩)) := by obtain ⟨v, h1, h2⟩ := h 6 (by decide +kernel); exact h1.trans (h2.symm.trans rfl)
        clear h hsz hdf
        refine load_dnH (j := 10) (b0 := true) (d := 43) rfl rfl eg (.tmp 6) rfl (g := gy) ?_ (HBY2.out.keep hE) ?_
        · simp [Act.eval, es]
        · exact ⟨_, rfl, rfl, Ext.refl _⟩
      · -- 16: t49 := call { value (Operand.func 20), args := #[t47, t48], argTypes := #[40, 40] } (10, True)
        intro ac wx hE hsz hdf h
        have e47 : ac.tmps[47]? = some (.agg (dnC kx mx zx px Bx nx cx).toArray) := by obtain ⟨v, h1, h2⟩ := h 47 (by decide +kernel); rw [h1]; exact congrArg some h2
        have e48 : ac.tmps[48]? = some (.agg (dnC ky my zy py By ny cy).toArray) := by obtain ⟨v, h1, h2⟩ := h 48 (by decide +kernel); rw [h1]; exact congrArg some h2
        have e43 : ac.tmps[43]? = some (.bool true) := by obtain ⟨v, h1, h2⟩ := h 43 (by decide +kernel); rw [h1]; exact congrArg some h2
        clear h hsz hdf
        go_wp2_with ((go_at_call 18; refine (refSameT _ ta (Nat.le_refl _) tb _ _ _ (dnC kx mx zx px Bx nx cx) (dnC ky my zy py By ny cy) (HVX2.out.keep hE) (HVY2.out.keep hE)).mono ?_; rintro e w9 ⟨rfl, hb9⟩; rw [HSM.out]))
        exact ⟨_, rfl, rfl, hb9⟩
      · -- 17: t50 := binOp BinOp.eql 4 t46 t49 4 (10, True)
        intro ac wx hE hsz hdf h
        have e46 : ac.tmps[46]? = some (.bool sm) := by obtain ⟨v, h1, h2⟩ := h 46 (by decide +kernel); rw [h1]; exact congrArg some h2
        have e49 : ac.tmps[49]? = some (.bool sm) := by obtain ⟨v, h1, h2⟩ := h 49 (by decide +kernel); rw [h1]; exact congrArg some h2
        have e43 : ac.tmps[43]? = some (.bool true) := by obtain ⟨v, h1, h2⟩ := h 43 (by decide +kernel); rw [h1]; exact congrArg some h2
        clear h hsz hdf
        go_wp2
        exact ⟨_, rfl, by simp, Ext.refl _⟩
      · -- 18: t51 := pick t43 t50 (const (Value.bool false)) 
        intro ac wx hE hsz hdf h
        have e43 : ac.tmps[43]? = some (.bool true) := by obtain ⟨v, h1, h2⟩ := h 43 (by decide +kernel); rw [h1]; exact congrArg some h2
        have e50 : ac.tmps[50]? = some (.bool true) := by obtain ⟨v, h1, h2⟩ := h 50 (by decide +kernel); rw [h1]; exact congrArg some h2
        clear h hsz hdf
        go_wp2
        exact ⟨_, rfl, rfl, Ext.refl _⟩
      · -- 19: t52 := move t51 
        intro ac wx hE hsz hdf h
        have e51 : ac.tmps[51]? = some (.bool true) := by obtain ⟨v, h1, h2⟩ := h 51 (by decide +kernel); rw [h1]; exact congrArg some h2
        clear h hsz hdf
        go_wp2
        exact ⟨_, rfl, rfl, Ext.refl _⟩
      · -- 20: t53 := load 28 t2 (19, True)
        intro ac wx hE hsz hdf h
        have e2 : ac.tmps[2]? = some (.pointer (some ⟨gA, 0, none⟩)) := by obtain ⟨v, h1, h2⟩ := h 2 (by decide +kernel); exact h1.trans (h2.symm.trans rfl)
        have e52 : ac.tmps[52]? = some (.bool true) := by obtain ⟨v, h1, h2⟩ := h 52 (by decide +kernel); rw [h1]; exact congrArg some h2
        clear h hsz hdf
        obtain ⟨y0, y1, y2, y3, y4, y5, y6, y7⟩ := (HBA2.out.keep hE).cells
        go_wp2
        exact ⟨_, rfl, rfl, Ext.refl _⟩
      · -- 21: t54 := call { value (Operand.func 10), args := #[t53], argTypes := #[28] } (19, True)
        intro ac wx hE hsz hdf h
        have e53 : ac.tmps[53]? = some (.agg #[.int .i64 ka, .int .i64 ma, .bool za, .int .u64 (wd pa 0 : Nat), .int .u64 (wd pa 1 : Nat), .int .u64 (wd pa 2 : Nat), .int .u64 (wd pa 3 : Nat), .slice Ba na ca]) := by obtain ⟨v, h1, h2⟩ := h 53 (by decide +kernel); rw [h1]; exact congrArg some h2
        have e52 : ac.tmps[52]? = some (.bool true) := by obtain ⟨v, h1, h2⟩ := h 52 (by decide +kernel); rw [h1]; exact congrArg some h2
        clear h hsz hdf
        go_wp2_with ((go_at_call 19; refine (rxNullable _ ta (Nat.le_refl _) (by have := HSA.out; omega) _ _ (nodeC ka ma za pa Ba na ca) (HVA2.out.keep hE)).mono ?_; rintro e w9 ⟨rfl, hb9⟩; rw [HNL.out]))
        exact ⟨_, rfl, rfl, hb9⟩
      · -- 22: t55 := load 40 t5 (19, True)
        intro ac wx hE hsz hdf h
        have eg : ac.tmps[52]? = some (.bool true) := by obtain ⟨v, h1, h2⟩ := h 52 (by decide +kernel); rw [h1]; exact congrArg some h2
        have es : ac.tmps[5]? = some (.pointer (some ⟨gx, 0, none⟩)) := by obtain ⟨v, h1, h2⟩ := h 5 (by decide +kernel); exact h1.trans (h2.symm.trans rfl)
        clear h hsz hdf
        refine load_dnH (j := 19) (b0 := true) (d := 52) rfl rfl eg (.tmp 5) rfl (g := gx) ?_ (HBX2.out.keep hE) ?_
        · simp [Act.eval, es]
        · exact ⟨_, rfl, rfl, Ext.refl _⟩
      · -- 23: t56 := call { value (Operand.func 21), args := #[t55], argTypes := #[40] } (19, True)
        intro ac wx hE hsz hdf h
        have e55 : ac.tmps[55]? = some (.agg (dnC kx mx zx px Bx nx cx).toArray) := by obtain ⟨v, h1, h2⟩ := h 55 (by decide +kernel); rw [h1]; exact congrArg some h2
        have e52 : ac.tmps[52]? = some (.bool true) := by obtain ⟨v, h1, h2⟩ := h 52 (by decide +kernel); rw [h1]; exact congrArg some h2
        clear h hsz hdf
        go_wp2_with ((go_at_call 20; refine (refNullable _ ta (Nat.le_refl _) _ _ (dnC kx mx zx px Bx nx cx) (HVX2.out.keep hE)).mono ?_; rintro e w9 ⟨rfl, hb9⟩; rw [HNL.out]))
        exact ⟨_, rfl, rfl, hb9⟩
      · -- 24: t57 := binOp BinOp.eql 4 t54 t56 4 (19, True)
        intro ac wx hE hsz hdf h
        have e54 : ac.tmps[54]? = some (.bool nl) := by obtain ⟨v, h1, h2⟩ := h 54 (by decide +kernel); rw [h1]; exact congrArg some h2
        have e56 : ac.tmps[56]? = some (.bool nl) := by obtain ⟨v, h1, h2⟩ := h 56 (by decide +kernel); rw [h1]; exact congrArg some h2
        have e52 : ac.tmps[52]? = some (.bool true) := by obtain ⟨v, h1, h2⟩ := h 52 (by decide +kernel); rw [h1]; exact congrArg some h2
        clear h hsz hdf
        go_wp2
        exact ⟨_, rfl, by simp, Ext.refl _⟩
      · -- 25: t58 := pick t52 t57 (const (Value.bool false)) 
        intro ac wx hE hsz hdf h
        have e52 : ac.tmps[52]? = some (.bool true) := by obtain ⟨v, h1, h2⟩ := h 52 (by decide +kernel); rw [h1]; exact congrArg some h2
        have e57 : ac.tmps[57]? = some (.bool true) := by obtain ⟨v, h1, h2⟩ := h 57 (by decide +kernel); rw [h1]; exact congrArg some h2
        clear h hsz hdf
        go_wp2
        exact ⟨_, rfl, rfl, Ext.refl _⟩
      · -- 26: t59 := move t58 
        intro ac wx hE hsz hdf h
        have e58 : ac.tmps[58]? = some (.bool true) := by obtain ⟨v, h1, h2⟩ := h 58 (by decide +kernel); rw [h1]; exact congrArg some h2
        clear h hsz hdf
        go_wp2
        exact ⟨_, rfl, rfl, Ext.refl _⟩
      · -- 27: t60 := load 28 t2 (26, True)
        intro ac wx hE hsz hdf h
        have e2 : ac.tmps[2]? = some (.pointer (some ⟨gA, 0, none⟩)) := by obtain ⟨v, h1, h2⟩ := h 2 (by decide +kernel); exact h1.trans (h2.symm.trans rfl)
        have e59 : ac.tmps[59]? = some (.bool true) := by obtain ⟨v, h1, h2⟩ := h 59 (by decide +kernel); rw [h1]; exact congrArg some h2
        clear h hsz hdf
        obtain ⟨y0, y1, y2, y3, y4, y5, y6, y7⟩ := (HBA2.out.keep hE).cells
        go_wp2
        exact ⟨_, rfl, rfl, Ext.refl _⟩
      · -- 28: t61 := call { value (Operand.func 11), args := #[t60], argTypes := #[28] } (26, True)
        intro ac wx hE hsz hdf h
        have e60 : ac.tmps[60]? = some (.agg #[.int .i64 ka, .int .i64 ma, .bool za, .int .u64 (wd pa 0 : Nat), .int .u64 (wd pa 1 : Nat), .int .u64 (wd pa 2 : Nat), .int .u64 (wd pa 3 : Nat), .slice Ba na ca]) := by obtain ⟨v, h1, h2⟩ := h 60 (by decide +kernel); rw [h1]; exact congrArg some h2
        have e59 : ac.tmps[59]? = some (.bool true) := by obtain ⟨v, h1, h2⟩ := h 59 (by decide +kernel); rw [h1]; exact congrArg some h2
        clear h hsz hdf
        go_wp2_with ((go_at_call 21; refine (rxSize _ ta (Nat.le_refl _) (by have := HSA.out; omega) _ _ (nodeC ka ma za pa Ba na ca) (HVA2.out.keep hE)).mono ?_; rintro e w9 ⟨rfl, hb9⟩; rw [HSZ.out]))
        exact ⟨_, rfl, rfl, hb9⟩
      · -- 29: t62 := move t9 (26, True)
        intro ac wx hE hsz hdf h
        have e9 : ac.tmps[9]? = some (.int .i64 (sz : Nat)) := by obtain ⟨v, h1, h2⟩ := h 9 (by decide +kernel); exact h1.trans (h2.symm.trans rfl)
        have e59 : ac.tmps[59]? = some (.bool true) := by obtain ⟨v, h1, h2⟩ := h 59 (by decide +kernel); rw [h1]; exact congrArg some h2
        clear h hsz hdf
        go_wp2
        exact ⟨_, rfl, rfl, Ext.refl _⟩
      · -- 30: t63 := binOp BinOp.eql 3 t61 t62 3 (26, True)
        intro ac wx hE hsz hdf h
        have e61 : ac.tmps[61]? = some (.int .i64 (sz : Nat)) := by obtain ⟨v, h1, h2⟩ := h 61 (by decide +kernel); rw [h1]; exact congrArg some h2
        have e62 : ac.tmps[62]? = some (.int .i64 (sz : Nat)) := by obtain ⟨v, h1, h2⟩ := h 62 (by decide +kernel); rw [h1]; exact congrArg some h2
        have e59 : ac.tmps[59]? = some (.bool true) := by obtain ⟨v, h1, h2⟩ := h 59 (by decide +kernel); rw [h1]; exact congrArg some h2
        clear h hsz hdf
        go_wp2
        exact ⟨_, rfl, rfl, Ext.refl _⟩
      · -- 31: t64 := pick t59 t63 (const (Value.bool false)) 
        intro ac wx hE hsz hdf h
        have e59 : ac.tmps[59]? = some (.bool true) := by obtain ⟨v, h1, h2⟩ := h 59 (by decide +kernel); rw [h1]; exact congrArg some h2
        have e63 : ac.tmps[63]? = some (.bool true) := by obtain ⟨v, h1, h2⟩ := h 63 (by decide +kernel); rw [h1]; exact congrArg some h2
        clear h hsz hdf
        go_wp2
        exact ⟨_, rfl, rfl, Ext.refl _⟩
      · -- 32: t65 := move t64 
        intro ac wx hE hsz hdf h
        have e64 : ac.tmps[64]? = some (.bool true) := by obtain ⟨v, h1, h2⟩ := h 64 (by decide +kernel); rw [h1]; exact congrArg some h2
        clear h hsz hdf
        go_wp2
        exact ⟨_, rfl, rfl, Ext.refl _⟩
      · -- 33: t66 := load 28 t2 (32, True)
        intro ac wx hE hsz hdf h
        have e2 : ac.tmps[2]? = some (.pointer (some ⟨gA, 0, none⟩)) := by obtain ⟨v, h1, h2⟩ := h 2 (by decide +kernel); exact h1.trans (h2.symm.trans rfl)
        have e65 : ac.tmps[65]? = some (.bool true) := by obtain ⟨v, h1, h2⟩ := h 65 (by decide +kernel); rw [h1]; exact congrArg some h2
        clear h hsz hdf
        obtain ⟨y0, y1, y2, y3, y4, y5, y6, y7⟩ := (HBA2.out.keep hE).cells
        go_wp2
        exact ⟨_, rfl, rfl, Ext.refl _⟩
      · -- 34: t67 := call { value (Operand.func 9), args := #[t66], argTypes := #[28] } (32, True)
        intro ac wx hE hsz hdf h
        have e66 : ac.tmps[66]? = some (.agg #[.int .i64 ka, .int .i64 ma, .bool za, .int .u64 (wd pa 0 : Nat), .int .u64 (wd pa 1 : Nat), .int .u64 (wd pa 2 : Nat), .int .u64 (wd pa 3 : Nat), .slice Ba na ca]) := by obtain ⟨v, h1, h2⟩ := h 66 (by decide +kernel); rw [h1]; exact congrArg some h2
        have e65 : ac.tmps[65]? = some (.bool true) := by obtain ⟨v, h1, h2⟩ := h 65 (by decide +kernel); rw [h1]; exact congrArg some h2
        clear h hsz hdf
        go_wp2_with ((go_at_call 22; refine (rxGroups _ ta (Nat.le_refl _) (by have := HSA.out; omega) _ _ (nodeC ka ma za pa Ba na ca) (HVA2.out.keep hE)).mono ?_; rintro e w9 ⟨rfl, hb9⟩; rw [HGR.out]))
        exact ⟨_, rfl, rfl, hb9⟩
      · -- 35: t68 := move t10 (32, True)
        intro ac wx hE hsz hdf h
        have e10 : ac.tmps[10]? = some (.int .i64 (gr : Nat)) := by obtain ⟨v, h1, h2⟩ := h 10 (by decide +kernel); exact h1.trans (h2.symm.trans rfl)
        have e65 : ac.tmps[65]? = some (.bool true) := by obtain ⟨v, h1, h2⟩ := h 65 (by decide +kernel); rw [h1]; exact congrArg some h2
        clear h hsz hdf
        go_wp2
        exact ⟨_, rfl, rfl, Ext.refl _⟩
      · -- 36: t69 := binOp BinOp.eql 3 t67 t68 3 (32, True)
        intro ac wx hE hsz hdf h
        have e67 : ac.tmps[67]? = some (.int .i64 (gr : Nat)) := by obtain ⟨v, h1, h2⟩ := h 67 (by decide +kernel); rw [h1]; exact congrArg some h2
        have e68 : ac.tmps[68]? = some (.int .i64 (gr : Nat)) := by obtain ⟨v, h1, h2⟩ := h 68 (by decide +kernel); rw [h1]; exact congrArg some h2
        have e65 : ac.tmps[65]? = some (.bool true) := by obtain ⟨v, h1, h2⟩ := h 65 (by decide +kernel); rw [h1]; exact congrArg some h2
        clear h hsz hdf
        go_wp2
        exact ⟨_, rfl, rfl, Ext.refl _⟩
      · -- 37: t70 := pick t65 t69 (const (Value.bool false)) 
        intro ac wx hE hsz hdf h
        have e65 : ac.tmps[65]? = some (.bool true) := by obtain ⟨v, h1, h2⟩ := h 65 (by decide +kernel); rw [h1]; exact congrArg some h2
        have e69 : ac.tmps[69]? = some (.bool true) := by obtain ⟨v, h1, h2⟩ := h 69 (by decide +kernel); rw [h1]; exact congrArg some h2
        clear h hsz hdf
        go_wp2
        exact ⟨_, rfl, rfl, Ext.refl _⟩
      · -- 38: t4 := assign t70 
        intro ac wx hE hsz hdf h
        have e70 : ac.tmps[70]? = some (.bool true) := by obtain ⟨v, h1, h2⟩ := h 70 (by decide +kernel); rw [h1]; exact congrArg some h2
        clear h hsz hdf
        go_wp2
        exact ⟨_, rfl, rfl, Ext.refl _⟩
      · intro ac w9 hE hsz hdf h hrest
        obtain ⟨v0, s0, g0⟩ := h 0 _ rfl
        have e0 := g0 33 rfl
        obtain rfl : v0 = .agg #[.int .i64 ka, .int .i64 ma, .bool za, .int .u64 (wd pa 0 : Nat), .int .u64 (wd pa 1 : Nat), .int .u64 (wd pa 2 : Nat), .int .u64 (wd pa 3 : Nat), .slice Ba na ca] := s0
        obtain ⟨v1, s1, g1⟩ := h 1 _ rfl
        have e1 := g1 34 rfl
        obtain rfl : v1 = .bool false := s1
        obtain ⟨v2, s2, g2⟩ := h 2 _ rfl
        have e2 := g2 35 rfl
        obtain rfl : v2 = .bool false := s2
        obtain ⟨v3, s3, g3⟩ := h 3 _ rfl
        have e3 := g3 36 rfl
        obtain rfl : v3 = .bool true := s3
        obtain ⟨v4, s4, g4⟩ := h 4 _ rfl
        have e4 := g4 37 rfl
        obtain rfl : v4 = .bool true := s4
        obtain ⟨v5, s5, g5⟩ := h 5 _ rfl
        have e5 := g5 38 rfl
        obtain rfl : v5 = .agg #[.int .i64 ka, .int .i64 ma, .bool za, .int .u64 (wd pa 0 : Nat), .int .u64 (wd pa 1 : Nat), .int .u64 (wd pa 2 : Nat), .int .u64 (wd pa 3 : Nat), .slice Ba na ca] := s5
        obtain ⟨v6, s6, g6⟩ := h 6 _ rfl
        have e6 := g6 39 rfl
        obtain rfl : v6 = .string ⟨[].toArray⟩ := s6
        obtain ⟨v7, s7, g7⟩ := h 7 _ rfl
        have e7 := g7 40 rfl
        obtain rfl : v7 = .string ⟨[].toArray⟩ := s7
        obtain ⟨v8, s8, g8⟩ := h 8 _ rfl
        have e8 := g8 41 rfl
        obtain rfl : v8 = .bool true := s8
        obtain ⟨v9, s9, g9⟩ := h 9 _ rfl
        have e9 := g9 42 rfl
        obtain rfl : v9 = .bool true := s9
        obtain ⟨v10, s10, g10⟩ := h 10 _ rfl
        have e10 := g10 43 rfl
        obtain rfl : v10 = .bool true := s10
        obtain ⟨v11, s11, g11⟩ := h 11 _ rfl
        have e11 := g11 44 rfl
        obtain rfl : v11 = .agg #[.int .i64 ka, .int .i64 ma, .bool za, .int .u64 (wd pa 0 : Nat), .int .u64 (wd pa 1 : Nat), .int .u64 (wd pa 2 : Nat), .int .u64 (wd pa 3 : Nat), .slice Ba na ca] := s11
        obtain ⟨v12, s12, g12⟩ := h 12 _ rfl
        have e12 := g12 45 rfl
        obtain rfl : v12 = .agg #[.int .i64 kb, .int .i64 mb, .bool zb, .int .u64 (wd pb 0 : Nat), .int .u64 (wd pb 1 : Nat), .int .u64 (wd pb 2 : Nat), .int .u64 (wd pb 3 : Nat), .slice Bb nb cb] := s12
        obtain ⟨v13, s13, g13⟩ := h 13 _ rfl
        have e13 := g13 46 rfl
        obtain rfl : v13 = .bool sm := s13
        obtain ⟨v14, s14, g14⟩ := h 14 _ rfl
        have e14 := g14 47 rfl
        obtain rfl : v14 = .agg (dnC kx mx zx px Bx nx cx).toArray := s14
        obtain ⟨v15, s15, g15⟩ := h 15 _ rfl
        have e15 := g15 48 rfl
        obtain rfl : v15 = .agg (dnC ky my zy py By ny cy).toArray := s15
        obtain ⟨v16, s16, g16⟩ := h 16 _ rfl
        have e16 := g16 49 rfl
        obtain rfl : v16 = .bool sm := s16
        obtain ⟨v17, s17, g17⟩ := h 17 _ rfl
        have e17 := g17 50 rfl
        obtain rfl : v17 = .bool true := s17
        obtain ⟨v18, s18, g18⟩ := h 18 _ rfl
        have e18 := g18 51 rfl
        obtain rfl : v18 = .bool true := s18
        obtain ⟨v19, s19, g19⟩ := h 19 _ rfl
        have e19 := g19 52 rfl
        obtain rfl : v19 = .bool true := s19
        obtain ⟨v20, s20, g20⟩ := h 20 _ rfl
        have e20 := g20 53 rfl
        obtain rfl : v20 = .agg #[.int .i64 ka, .int .i64 ma, .bool za, .int .u64 (wd pa 0 : Nat), .int .u64 (wd pa 1 : Nat), .int .u64 (wd pa 2 : Nat), .int .u64 (wd pa 3 : Nat), .slice Ba na ca] := s20
        obtain ⟨v21, s21, g21⟩ := h 21 _ rfl
        have e21 := g21 54 rfl
        obtain rfl : v21 = .bool nl := s21
        obtain ⟨v22, s22, g22⟩ := h 22 _ rfl
        have e22 := g22 55 rfl
        obtain rfl : v22 = .agg (dnC kx mx zx px Bx nx cx).toArray := s22
        obtain ⟨v23, s23, g23⟩ := h 23 _ rfl
        have e23 := g23 56 rfl
        obtain rfl : v23 = .bool nl := s23
        obtain ⟨v24, s24, g24⟩ := h 24 _ rfl
        have e24 := g24 57 rfl
        obtain rfl : v24 = .bool true := s24
        obtain ⟨v25, s25, g25⟩ := h 25 _ rfl
        have e25 := g25 58 rfl
        obtain rfl : v25 = .bool true := s25
        obtain ⟨v26, s26, g26⟩ := h 26 _ rfl
        have e26 := g26 59 rfl
        obtain rfl : v26 = .bool true := s26
        obtain ⟨v27, s27, g27⟩ := h 27 _ rfl
        have e27 := g27 60 rfl
        obtain rfl : v27 = .agg #[.int .i64 ka, .int .i64 ma, .bool za, .int .u64 (wd pa 0 : Nat), .int .u64 (wd pa 1 : Nat), .int .u64 (wd pa 2 : Nat), .int .u64 (wd pa 3 : Nat), .slice Ba na ca] := s27
        obtain ⟨v28, s28, g28⟩ := h 28 _ rfl
        have e28 := g28 61 rfl
        obtain rfl : v28 = .int .i64 (sz : Nat) := s28
        obtain ⟨v29, s29, g29⟩ := h 29 _ rfl
        have e29 := g29 62 rfl
        obtain rfl : v29 = .int .i64 (sz : Nat) := s29
        obtain ⟨v30, s30, g30⟩ := h 30 _ rfl
        have e30 := g30 63 rfl
        obtain rfl : v30 = .bool true := s30
        obtain ⟨v31, s31, g31⟩ := h 31 _ rfl
        have e31 := g31 64 rfl
        obtain rfl : v31 = .bool true := s31
        obtain ⟨v32, s32, g32⟩ := h 32 _ rfl
        have e32 := g32 65 rfl
        obtain rfl : v32 = .bool true := s32
        obtain ⟨v33, s33, g33⟩ := h 33 _ rfl
        have e33 := g33 66 rfl
        obtain rfl : v33 = .agg #[.int .i64 ka, .int .i64 ma, .bool za, .int .u64 (wd pa 0 : Nat), .int .u64 (wd pa 1 : Nat), .int .u64 (wd pa 2 : Nat), .int .u64 (wd pa 3 : Nat), .slice Ba na ca] := s33
        obtain ⟨v34, s34, g34⟩ := h 34 _ rfl
        have e34 := g34 67 rfl
        obtain rfl : v34 = .int .i64 (gr : Nat) := s34
        obtain ⟨v35, s35, g35⟩ := h 35 _ rfl
        have e35 := g35 68 rfl
        obtain rfl : v35 = .int .i64 (gr : Nat) := s35
        obtain ⟨v36, s36, g36⟩ := h 36 _ rfl
        have e36 := g36 69 rfl
        obtain rfl : v36 = .bool true := s36
        obtain ⟨v37, s37, g37⟩ := h 37 _ rfl
        have e37 := g37 70 rfl
        obtain rfl : v37 = .bool true := s37
        obtain ⟨v38, s38, g38⟩ := h 38 _ rfl
        have e38 := g38 4 rfl
        obtain rfl : v38 = .bool true := s38
        have ha := act_of [(33, .agg #[.int .i64 ka, .int .i64 ma, .bool za, .int .u64 (wd pa 0 : Nat), .int .u64 (wd pa 1 : Nat), .int .u64 (wd pa 2 : Nat), .int .u64 (wd pa 3 : Nat), .slice Ba na ca]), (34, .bool false), (35, .bool false), (36, .bool true), (37, .bool true), (38, .agg #[.int .i64 ka, .int .i64 ma, .bool za, .int .u64 (wd pa 0 : Nat), .int .u64 (wd pa 1 : Nat), .int .u64 (wd pa 2 : Nat), .int .u64 (wd pa 3 : Nat), .slice Ba na ca]), (39, .string ⟨[].toArray⟩), (40, .string ⟨[].toArray⟩), (41, .bool true), (42, .bool true), (43, .bool true), (44, .agg #[.int .i64 ka, .int .i64 ma, .bool za, .int .u64 (wd pa 0 : Nat), .int .u64 (wd pa 1 : Nat), .int .u64 (wd pa 2 : Nat), .int .u64 (wd pa 3 : Nat), .slice Ba na ca]), (45, .agg #[.int .i64 kb, .int .i64 mb, .bool zb, .int .u64 (wd pb 0 : Nat), .int .u64 (wd pb 1 : Nat), .int .u64 (wd pb 2 : Nat), .int .u64 (wd pb 3 : Nat), .slice Bb nb cb]), (46, .bool sm), (47, .agg (dnC kx mx zx px Bx nx cx).toArray), (48, .agg (dnC ky my zy py By ny cy).toArray), (49, .bool sm), (50, .bool true), (51, .bool true), (52, .bool true), (53, .agg #[.int .i64 ka, .int .i64 ma, .bool za, .int .u64 (wd pa 0 : Nat), .int .u64 (wd pa 1 : Nat), .int .u64 (wd pa 2 : Nat), .int .u64 (wd pa 3 : Nat), .slice Ba na ca]), (54, .bool nl), (55, .agg (dnC kx mx zx px Bx nx cx).toArray), (56, .bool nl), (57, .bool true), (58, .bool true), (59, .bool true), (60, .agg #[.int .i64 ka, .int .i64 ma, .bool za, .int .u64 (wd pa 0 : Nat), .int .u64 (wd pa 1 : Nat), .int .u64 (wd pa 2 : Nat), .int .u64 (wd pa 3 : Nat), .slice Ba na ca]), (61, .int .i64 (sz : Nat)), (62, .int .i64 (sz : Nat)), (63, .bool true), (64, .bool true), (65, .bool true), (66, .agg #[.int .i64 ka, .int .i64 ma, .bool za, .int .u64 (wd pa 0 : Nat), .int .u64 (wd pa 1 : Nat), .int .u64 (wd pa 2 : Nat), .int .u64 (wd pa 3 : Nat), .slice Ba na ca]), (67, .int .i64 (gr : Nat)), (68, .int .i64 (gr : Nat)), (69, .bool true), (70, .bool true), (4, .bool true)] rfl hsz hdf (by intro p hp; simp only [List.mem_cons, List.not_mem_nil, or_false] at hp; rcases hp with rfl | rfl | rfl | rfl | rfl | rfl | rfl | rfl | rfl | rfl | rfl | rfl | rfl | rfl | rfl | rfl | rfl | rfl | rfl | rfl | rfl | rfl | rfl | rfl | rfl | rfl | rfl | rfl | rfl | rfl | rfl | rfl | rfl | rfl | rfl | rfl | rfl | rfl | rfl <;> first | exact e0 | exact e1 | exact e2 | exact e3 | exact e4 | exact e5 | exact e6 | exact e7 | exact e8 | exact e9 | exact e10 | exact e11 | exact e12 | exact e13 | exact e14 | exact e15 | exact e16 | exact e17 | exact e18 | exact e19 | exact e20 | exact e21 | exact e22 | exact e23 | exact e24 | exact e25 | exact e26 | exact e27 | exact e28 | exact e29 | exact e30 | exact e31 | exact e32 | exact e33 | exact e34 | exact e35 | exact e36 | exact e37 | exact e38) hrest
        clear h hrest hsz hdf e0 e1 e2 e3 e4 e5 e6 e7 e8 e9 e10 e11 e12 e13 e14 e15 e16 e17 e18 e19 e20 e21 e22 e23 e24 e25 e26 e27 e28 e29 e30 e31 e32 e33 e34 e35 e36 e37 e38 g0 g1 g2 g3 g4 g5 g6 g7 g8 g9 g10 g11 g12 g13 g14 g15 g16 g17 g18 g19 g20 g21 g22 g23 g24 g25 g26 g27 g28 g29 g30 g31 g32 g33 g34 g35 g36 g37 g38
        subst ha
        simp only [List.foldl_cons, List.foldl_nil, Act.put, List.setIfInBounds_toArray, List.set_cons_succ, List.set_cons_zero]
        go_wp2
        go_ret
        exact ⟨rfl, Ext.trans HX2.out hE⟩
    · have HR := Lib.hid hr
      have HTX := Lib.hid (show textR ta = ta.text from by unfold textR; rw [hr]; rfl)
      clear hr
      go_upto_region 11 with (first
        | (have := hx2; go_at_call 14; refine (refCount _ ta (Nat.le_refl _) (by have := HSA.out; omega) _ _ (dnC kx mx zx px Bx nx cx) (HVX.out.keep (Ext.trans hx1 hx2))).mono ?_; rintro e w11 ⟨rfl, hx3⟩)
        | (have := hx1; go_at_call 13; refine (refTextD _ ta (Nat.le_refl _) (by have := HSA.out; omega) 1 0 HR.out _ _ (dnC kx mx zx px Bx nx cx) (HVX.out.keep hx1)).mono ?_; rintro e w12 ⟨rfl, hx2⟩)
        | (go_at_call 12; refine (refRightD ta (by have := HSA.out; omega) _ _ (dnC kx mx zx px Bx nx cx) HVX.out).mono ?_; rintro e w10 ⟨rfl, hx1⟩; rw [HR.out])
        | (refine load_dn rfl (.tmp 5) rfl (g := gx) rfl (HBX.out.keep (Ext.trans hx1 hx2)) ?_)
        | (refine load_dn rfl (.tmp 5) rfl (g := gx) rfl (HBX.out.keep hx1) ?_)
        | (refine load_dn rfl (.tmp 5) rfl (g := gx) rfl (HBX.out) ?_))
      have hx := Ext.trans hx1 (Ext.trans hx2 hx3)
      have HVA2 := Lib.hid (HVA9.out.keep hx)
      have HVB2 := Lib.hid (HVB9.out.keep hx)
      have HBA2 := Lib.hid (HBA9.out.keep hx)
      have HBB2 := Lib.hid (HBB9.out.keep hx)
      have HEE2 := Lib.hid (HEE9.out.keep hx)
      have HBX2 := Lib.hid (HBX.out.keep hx)
      have HBY2 := Lib.hid (HBY.out.keep hx)
      have HVX2 := Lib.hid (HVX.out.keep hx)
      have HVY2 := Lib.hid (HVY.out.keep hx)
      have HX2 := Lib.hid (Ext.trans HX9.out hx)
      clear HVA9 HVB9 HBA9 HBB9 HEE9 HBX HBY HVX HVY HX9 hx hx1 hx2 hx3
      obtain ⟨sz, hsz⟩ : ∃ sz, ta.size = sz := ⟨_, rfl⟩
      obtain ⟨gr, hgr⟩ : ∃ gr, ta.groups = gr := ⟨_, rfl⟩
      obtain ⟨sm, hsm⟩ : ∃ sm, ta.same tb = sm := ⟨_, rfl⟩
      obtain ⟨nl, hnl⟩ : ∃ nl, ta.nullable = nl := ⟨_, rfl⟩
      have HSZ := Lib.hid hsz
      have HGR := Lib.hid hgr
      have HSM := Lib.hid hsm
      have HNL := Lib.hid hnl
      rw [hsz, hgr]
      clear hsz hgr hsm hnl
      generalize w11 = wl at *
      refine wp_region_dag (E := Ext) (w0 := wl) (Φ := fun i v w => match i with | 0 => (v = .agg #[.int .i64 ka, .int .i64 ma, .bool za, .int .u64 (wd pa 0 : Nat), .int .u64 (wd pa 1 : Nat), .int .u64 (wd pa 2 : Nat), .int .u64 (wd pa 3 : Nat), .slice Ba na ca]) | 1 => (v = .bool true) | 2 => (v = .bool true) | 3 => (v = .bool true) | 4 => (v = .bool true) | 5 => (v = .agg #[.int .i64 ka, .int .i64 ma, .bool za, .int .u64 (wd pa 0 : Nat), .int .u64 (wd pa 1 : Nat), .int .u64 (wd pa 2 : Nat), .int .u64 (wd pa 3 : Nat), .slice Ba na ca]) | 6 => (v = .string ⟨ta.text.toArray⟩) | 7 => (v = .string ⟨ta.text.toArray⟩) | 8 => (v = .bool true) | 9 => (v = .bool true) | 10 => (v = .bool true) | 11 => (v = .agg #[.int .i64 ka, .int .i64 ma, .bool za, .int .u64 (wd pa 0 : Nat), .int .u64 (wd pa 1 : Nat), .int .u64 (wd pa 2 : Nat), .int .u64 (wd pa 3 : Nat), .slice Ba na ca]) | 12 => (v = .agg #[.int .i64 kb, .int .i64 mb, .bool zb, .int .u64 (wd pb 0 : Nat), .int .u64 (wd pb 1 : Nat), .int .u64 (wd pb 2 : Nat), .int .u64 (wd pb 3 : Nat), .slice Bb nb cb]) | 13 => (v = .bool sm) | 14 => (v = .agg (dnC kx mx zx px Bx nx cx).toArray) | 15 => (v = .agg (dnC ky my zy py By ny cy).toArray) | 16 => (v = .bool sm) | 17 => (v = .bool true) | 18 => (v = .bool true) | 19 => (v = .bool true) | 20 => (v = .agg #[.int .i64 ka, .int .i64 ma, .bool za, .int .u64 (wd pa 0 : Nat), .int .u64 (wd pa 1 : Nat), .int .u64 (wd pa 2 : Nat), .int .u64 (wd pa 3 : Nat), .slice Ba na ca]) | 21 => (v = .bool nl) | 22 => (v = .agg (dnC kx mx zx px Bx nx cx).toArray) | 23 => (v = .bool nl) | 24 => (v = .bool true) | 25 => (v = .bool true) | 26 => (v = .bool true) | 27 => (v = .agg #[.int .i64 ka, .int .i64 ma, .bool za, .int .u64 (wd pa 0 : Nat), .int .u64 (wd pa 1 : Nat), .int .u64 (wd pa 2 : Nat), .int .u64 (wd pa 3 : Nat), .slice Ba na ca]) | 28 => (v = .int .i64 (sz : Nat)) | 29 => (v = .int .i64 (sz : Nat)) | 30 => (v = .bool true) | 31 => (v = .bool true) | 32 => (v = .bool true) | 33 => (v = .agg #[.int .i64 ka, .int .i64 ma, .bool za, .int .u64 (wd pa 0 : Nat), .int .u64 (wd pa 1 : Nat), .int .u64 (wd pa 2 : Nat), .int .u64 (wd pa 3 : Nat), .slice Ba na ca]) | 34 => (v = .int .i64 (gr : Nat)) | 35 => (v = .int .i64 (gr : Nat)) | 36 => (v = .bool true) | 37 => (v = .bool true) | 38 => (v = .bool true) | _ => True) (show Tryd.prog.follows .mixedOrders = true from Checked.mixed Tryd.checked) 71 rfl (by decide +kernel) ?_ ((Below.refl _ _).drew) ?_ ⟨?_, ?_, ?_, ?_, ?_, ?_, ?_, ?_, ?_, ?_, ?_, ?_, ?_, ?_, ?_, ?_, ?_, ?_, ?_, ?_, ?_, ?_, ?_, ?_, ?_, ?_, ?_, ?_, ?_, ?_, ?_, ?_, ?_, ?_, ?_, ?_, ?_, ?_, ?_, trivial⟩ ?_
      · intro i v w w' h hE
        match i, h with
        | 0, h => exact h
        | 1, h => exact h
        | 2, h => exact h
        | 3, h => exact h
        | 4, h => exact h
        | 5, h => exact h
        | 6, h => exact h
        | 7, h => exact h
        | 8, h => exact h
        | 9, h => exact h
        | 10, h => exact h
        | 11, h => exact h
        | 12, h => exact h
        | 13, h => exact h
        | 14, h => exact h
        | 15, h => exact h
        | 16, h => exact h
        | 17, h => exact h
        | 18, h => exact h
        | 19, h => exact h
        | 20, h => exact h
        | 21, h => exact h
        | 22, h => exact h
        | 23, h => exact h
        | 24, h => exact h
        | 25, h => exact h
        | 26, h => exact h
        | 27, h => exact h
        | 28, h => exact h
        | 29, h => exact h
        | 30, h => exact h
        | 31, h => exact h
        | 32, h => exact h
        | 33, h => exact h
        | 34, h => exact h
        | 35, h => exact h
        | 36, h => exact h
        | 37, h => exact h
        | 38, h => exact h
        | _ + 39, _ => trivial
      · exact fun w w' h h' => h.trans h'
      · -- 0: t33 := load 28 t2 
        intro ac wx hE hsz hdf h
        have e2 : ac.tmps[2]? = some (.pointer (some ⟨gA, 0, none⟩)) := by obtain ⟨v, h1, h2⟩ := h 2 (by decide +kernel); exact h1.trans (h2.symm.trans rfl)
        clear h hsz hdf
        obtain ⟨y0, y1, y2, y3, y4, y5, y6, y7⟩ := (HBA2.out.keep hE).cells
        go_wp2
        exact ⟨_, rfl, rfl, Ext.refl _⟩
      · -- 1: t34 := call { value (Operand.func 17), args := #[t33], argTypes := #[28] } 
        intro ac wx hE hsz hdf h
        have e33 : ac.tmps[33]? = some (.agg #[.int .i64 ka, .int .i64 ma, .bool za, .int .u64 (wd pa 0 : Nat), .int .u64 (wd pa 1 : Nat), .int .u64 (wd pa 2 : Nat), .int .u64 (wd pa 3 : Nat), .slice Ba na ca]) := by obtain ⟨v, h1, h2⟩ := h 33 (by decide +kernel); rw [h1]; exact congrArg some h2
        clear h hsz hdf
        go_wp2_with ((go_at_call 15; refine (rxRight ta (by have := HSA.out; omega) _ _ (nodeC ka ma za pa Ba na ca) (HVA2.out.keep hE)).mono ?_; rintro e w9 ⟨rfl, hb9⟩; rw [HR.out]))
        exact ⟨_, rfl, rfl, hb9⟩
      · -- 2: t35 := move t7 
        intro ac wx hE hsz hdf h
        have e7 : ac.tmps[7]? = some (.bool true) := by obtain ⟨v, h1, h2⟩ := h 7 (by decide +kernel); exact h1.trans (h2.symm.trans rfl)
        clear h hsz hdf
        go_wp2
        exact ⟨_, rfl, rfl, Ext.refl _⟩
      · -- 3: t36 := binOp BinOp.eql 4 t34 t35 4 
        intro ac wx hE hsz hdf h
        have e34 : ac.tmps[34]? = some (.bool true) := by obtain ⟨v, h1, h2⟩ := h 34 (by decide +kernel); rw [h1]; exact congrArg some h2
        have e35 : ac.tmps[35]? = some (.bool true) := by obtain ⟨v, h1, h2⟩ := h 35 (by decide +kernel); rw [h1]; exact congrArg some h2
        clear h hsz hdf
        go_wp2
        exact ⟨_, rfl, rfl, Ext.refl _⟩
      · -- 4: t37 := move t36 
        intro ac wx hE hsz hdf h
        have e36 : ac.tmps[36]? = some (.bool true) := by obtain ⟨v, h1, h2⟩ := h 36 (by decide +kernel); rw [h1]; exact congrArg some h2
        clear h hsz hdf
        go_wp2
        exact ⟨_, rfl, rfl, Ext.refl _⟩
      · -- 5: t38 := load 28 t2 (4, True)
        intro ac wx hE hsz hdf h
        have e2 : ac.tmps[2]? = some (.pointer (some ⟨gA, 0, none⟩)) := by obtain ⟨v, h1, h2⟩ := h 2 (by decide +kernel); exact h1.trans (h2.symm.trans rfl)
        have e37 : ac.tmps[37]? = some (.bool true) := by obtain ⟨v, h1, h2⟩ := h 37 (by decide +kernel); rw [h1]; exact congrArg some h2
        clear h hsz hdf
        obtain ⟨y0, y1, y2, y3, y4, y5, y6, y7⟩ := (HBA2.out.keep hE).cells
        go_wp2
        exact ⟨_, rfl, rfl, Ext.refl _⟩
      · -- 6: t39 := call { value (Operand.func 18), args := #[t38], argTypes := #[28] } (4, True)
        intro ac wx hE hsz hdf h
        have e38 : ac.tmps[38]? = some (.agg #[.int .i64 ka, .int .i64 ma, .bool za, .int .u64 (wd pa 0 : Nat), .int .u64 (wd pa 1 : Nat), .int .u64 (wd pa 2 : Nat), .int .u64 (wd pa 3 : Nat), .slice Ba na ca]) := by obtain ⟨v, h1, h2⟩ := h 38 (by decide +kernel); rw [h1]; exact congrArg some h2
        have e37 : ac.tmps[37]? = some (.bool true) := by obtain ⟨v, h1, h2⟩ := h 37 (by decide +kernel); rw [h1]; exact congrArg some h2
        clear h hsz hdf
        go_wp2_with ((go_at_call 16; refine (rxText ta (by have := HSA.out; omega) _ _ (nodeC ka ma za pa Ba na ca) (HVA2.out.keep hE) (HEE2.out.t.keep hE)).mono ?_; rintro e w9 ⟨rfl, hb9⟩; rw [HTX.out]))
        exact ⟨_, rfl, rfl, hb9⟩
      · -- 7: t40 := move t8 (4, True)
        intro ac wx hE hsz hdf h
        have e8 : ac.tmps[8]? = some (.string ⟨ta.text.toArray⟩) := by obtain ⟨v, h1, h2⟩ := h 8 (by decide +kernel); exact h1.trans (h2.symm.trans rfl)
        have e37 : ac.tmps[37]? = some (.bool true) := by obtain ⟨v, h1, h2⟩ := h 37 (by decide +kernel); rw [h1]; exact congrArg some h2
        clear h hsz hdf
        go_wp2
        exact ⟨_, rfl, rfl, Ext.refl _⟩
      · -- 8: t41 := binOp BinOp.eql 9 t39 t40 9 (4, True)
        intro ac wx hE hsz hdf h
        have e39 : ac.tmps[39]? = some (.string ⟨ta.text.toArray⟩) := by obtain ⟨v, h1, h2⟩ := h 39 (by decide +kernel); rw [h1]; exact congrArg some h2
        have e40 : ac.tmps[40]? = some (.string ⟨ta.text.toArray⟩) := by obtain ⟨v, h1, h2⟩ := h 40 (by decide +kernel); rw [h1]; exact congrArg some h2
        have e37 : ac.tmps[37]? = some (.bool true) := by obtain ⟨v, h1, h2⟩ := h 37 (by decide +kernel); rw [h1]; exact congrArg some h2
        clear h hsz hdf
        go_wp2
        exact ⟨_, rfl, by simp, Ext.refl _⟩
      · -- 9: t42 := pick t37 t41 (const (Value.bool false)) 
        intro ac wx hE hsz hdf h
        have e37 : ac.tmps[37]? = some (.bool true) := by obtain ⟨v, h1, h2⟩ := h 37 (by decide +kernel); rw [h1]; exact congrArg some h2
        have e41 : ac.tmps[41]? = some (.bool true) := by obtain ⟨v, h1, h2⟩ := h 41 (by decide +kernel); rw [h1]; exact congrArg some h2
        clear h hsz hdf
        go_wp2
        exact ⟨_, rfl, rfl, Ext.refl _⟩
      · -- 10: t43 := move t42 
        intro ac wx hE hsz hdf h
        have e42 : ac.tmps[42]? = some (.bool true) := by obtain ⟨v, h1, h2⟩ := h 42 (by decide +kernel); rw [h1]; exact congrArg some h2
        clear h hsz hdf
        go_wp2
        exact ⟨_, rfl, rfl, Ext.refl _⟩
      · -- 11: t44 := load 28 t2 (10, True)
        intro ac wx hE hsz hdf h
        have e2 : ac.tmps[2]? = some (.pointer (some ⟨gA, 0, none⟩)) := by obtain ⟨v, h1, h2⟩ := h 2 (by decide +kernel); exact h1.trans (h2.symm.trans rfl)
        have e43 : ac.tmps[43]? = some (.bool true) := by obtain ⟨v, h1, h2⟩ := h 43 (by decide +kernel); rw [h1]; exact congrArg some h2
        clear h hsz hdf
        obtain ⟨y0, y1, y2, y3, y4, y5, y6, y7⟩ := (HBA2.out.keep hE).cells
        go_wp2
        exact ⟨_, rfl, rfl, Ext.refl _⟩
      · -- 12: t45 := load 28 t3 (10, True)
        intro ac wx hE hsz hdf h
        have e3 : ac.tmps[3]? = some (.pointer (some ⟨gB, 0, none⟩)) := by obtain ⟨v, h1, h2⟩ := h 3 (by decide +kernel); exact h1.trans (h2.symm.trans rfl)
        have e43 : ac.tmps[43]? = some (.bool true) := by obtain ⟨v, h1, h2⟩ := h 43 (by decide +kernel); rw [h1]; exact congrArg some h2
        clear h hsz hdf
        obtain ⟨y0, y1, y2, y3, y4, y5, y6, y7⟩ := (HBB2.out.keep hE).cells
        go_wp2
        exact ⟨_, rfl, rfl, Ext.refl _⟩
      · -- 13: t46 := call { value (Operand.func 19), args := #[t44, t45], argTypes := #[28, 28] } (10, True)
        intro ac wx hE hsz hdf h
        have e44 : ac.tmps[44]? = some (.agg #[.int .i64 ka, .int .i64 ma, .bool za, .int .u64 (wd pa 0 : Nat), .int .u64 (wd pa 1 : Nat), .int .u64 (wd pa 2 : Nat), .int .u64 (wd pa 3 : Nat), .slice Ba na ca]) := by obtain ⟨v, h1, h2⟩ := h 44 (by decide +kernel); rw [h1]; exact congrArg some h2
        have e45 : ac.tmps[45]? = some (.agg #[.int .i64 kb, .int .i64 mb, .bool zb, .int .u64 (wd pb 0 : Nat), .int .u64 (wd pb 1 : Nat), .int .u64 (wd pb 2 : Nat), .int .u64 (wd pb 3 : Nat), .slice Bb nb cb]) := by obtain ⟨v, h1, h2⟩ := h 45 (by decide +kernel); rw [h1]; exact congrArg some h2
        have e43 : ac.tmps[43]? = some (.bool true) := by obtain ⟨v, h1, h2⟩ := h 43 (by decide +kernel); rw [h1]; exact congrArg some h2
        clear h hsz hdf
        go_wp2_with ((go_at_call 17; refine (rxSame _ ta (Nat.le_refl _) tb _ _ _ (nodeC ka ma za pa Ba na ca) (nodeC kb mb zb pb Bb nb cb) (HVA2.out.keep hE) (HVB2.out.keep hE)).mono ?_; rintro e w9 ⟨rfl, hb9⟩; rw [HSM.out]))
        exact ⟨_, rfl, rfl, hb9⟩
      · -- 14: t47 := load 40 t5 (10, True)
        intro ac wx hE hsz hdf h
        have eg : ac.tmps[43]? = some (.bool true) := by obtain ⟨v, h1, h2⟩ := h 43 (by decide +kernel); rw [h1]; exact congrArg some h2
        have es : ac.tmps[5]? = some (.pointer (some ⟨gx, 0, none⟩)) := by obtain ⟨v, h1, h2⟩ := h 5 (by decide +kernel); exact h1.trans (h2.symm.trans rfl)
        clear h hsz hdf
        refine load_dnH (j := 10) (b0 := true) (d := 43) rfl rfl eg (.tmp 5) rfl (g := gx) ?_ (HBX2.out.keep hE) ?_
        · simp [Act.eval, es]
        · exact ⟨_, rfl, rfl, Ext.refl _⟩
      · -- 15: t48 := load 40 t6 (10, True)
        intro ac wx hE hsz hdf h
        have eg : ac.tmps[43]? = some (.bool true) := by obtain ⟨v, h1, h2⟩ := h 43 (by decide +kernel); rw [h1]; exact congrArg some h2
        have es : ac.tmps[6]? = some (.pointer (some ⟨gy, 0, none⟩)) := by obtain ⟨v, h1, h2⟩ := h 6 (by decide +kernel); exact h1.trans (h2.symm.trans rfl)
        clear h hsz hdf
        refine load_dnH (j := 10) (b0 := true) (d := 43) rfl rfl eg (.tmp 6) rfl (g := gy) ?_ (HBY2.out.keep hE) ?_
        · simp [Act.eval, es]
        · exact ⟨_, rfl, rfl, Ext.refl _⟩
      · -- 16: t49 := call { value (Operand.func 20), args := #[t47, t48], argTypes := #[40, 40] } (10, True)
        intro ac wx hE hsz hdf h
        have e47 : ac.tmps[47]? = some (.agg (dnC kx mx zx px Bx nx cx).toArray) := by obtain ⟨v, h1, h2⟩ := h 47 (by decide +kernel); rw [h1]; exact congrArg some h2
        have e48 : ac.tmps[48]? = some (.agg (dnC ky my zy py By ny cy).toArray) := by obtain ⟨v, h1, h2⟩ := h 48 (by decide +kernel); rw [h1]; exact congrArg some h2
        have e43 : ac.tmps[43]? = some (.bool true) := by obtain ⟨v, h1, h2⟩ := h 43 (by decide +kernel); rw [h1]; exact congrArg some h2
        clear h hsz hdf
        go_wp2_with ((go_at_call 18; refine (refSameT _ ta (Nat.le_refl _) tb _ _ _ (dnC kx mx zx px Bx nx cx) (dnC ky my zy py By ny cy) (HVX2.out.keep hE) (HVY2.out.keep hE)).mono ?_; rintro e w9 ⟨rfl, hb9⟩; rw [HSM.out]))
        exact ⟨_, rfl, rfl, hb9⟩
      · -- 17: t50 := binOp BinOp.eql 4 t46 t49 4 (10, True)
        intro ac wx hE hsz hdf h
        have e46 : ac.tmps[46]? = some (.bool sm) := by obtain ⟨v, h1, h2⟩ := h 46 (by decide +kernel); rw [h1]; exact congrArg some h2
        have e49 : ac.tmps[49]? = some (.bool sm) := by obtain ⟨v, h1, h2⟩ := h 49 (by decide +kernel); rw [h1]; exact congrArg some h2
        have e43 : ac.tmps[43]? = some (.bool true) := by obtain ⟨v, h1, h2⟩ := h 43 (by decide +kernel); rw [h1]; exact congrArg some h2
        clear h hsz hdf
        go_wp2
        exact ⟨_, rfl, by simp, Ext.refl _⟩
      · -- 18: t51 := pick t43 t50 (const (Value.bool false)) 
        intro ac wx hE hsz hdf h
        have e43 : ac.tmps[43]? = some (.bool true) := by obtain ⟨v, h1, h2⟩ := h 43 (by decide +kernel); rw [h1]; exact congrArg some h2
        have e50 : ac.tmps[50]? = some (.bool true) := by obtain ⟨v, h1, h2⟩ := h 50 (by decide +kernel); rw [h1]; exact congrArg some h2
        clear h hsz hdf
        go_wp2
        exact ⟨_, rfl, rfl, Ext.refl _⟩
      · -- 19: t52 := move t51 
        intro ac wx hE hsz hdf h
        have e51 : ac.tmps[51]? = some (.bool true) := by obtain ⟨v, h1, h2⟩ := h 51 (by decide +kernel); rw [h1]; exact congrArg some h2
        clear h hsz hdf
        go_wp2
        exact ⟨_, rfl, rfl, Ext.refl _⟩
      · -- 20: t53 := load 28 t2 (19, True)
        intro ac wx hE hsz hdf h
        have e2 : ac.tmps[2]? = some (.pointer (some ⟨gA, 0, none⟩)) := by obtain ⟨v, h1, h2⟩ := h 2 (by decide +kernel); exact h1.trans (h2.symm.trans rfl)
        have e52 : ac.tmps[52]? = some (.bool true) := by obtain ⟨v, h1, h2⟩ := h 52 (by decide +kernel); rw [h1]; exact congrArg some h2
        clear h hsz hdf
        obtain ⟨y0, y1, y2, y3, y4, y5, y6, y7⟩ := (HBA2.out.keep hE).cells
        go_wp2
        exact ⟨_, rfl, rfl, Ext.refl _⟩
      · -- 21: t54 := call { value (Operand.func 10), args := #[t53], argTypes := #[28] } (19, True)
        intro ac wx hE hsz hdf h
        have e53 : ac.tmps[53]? = some (.agg #[.int .i64 ka, .int .i64 ma, .bool za, .int .u64 (wd pa 0 : Nat), .int .u64 (wd pa 1 : Nat), .int .u64 (wd pa 2 : Nat), .int .u64 (wd pa 3 : Nat), .slice Ba na ca]) := by obtain ⟨v, h1, h2⟩ := h 53 (by decide +kernel); rw [h1]; exact congrArg some h2
        have e52 : ac.tmps[52]? = some (.bool true) := by obtain ⟨v, h1, h2⟩ := h 52 (by decide +kernel); rw [h1]; exact congrArg some h2
        clear h hsz hdf
        go_wp2_with ((go_at_call 19; refine (rxNullable _ ta (Nat.le_refl _) (by have := HSA.out; omega) _ _ (nodeC ka ma za pa Ba na ca) (HVA2.out.keep hE)).mono ?_; rintro e w9 ⟨rfl, hb9⟩; rw [HNL.out]))
        exact ⟨_, rfl, rfl, hb9⟩
      · -- 22: t55 := load 40 t5 (19, True)
        intro ac wx hE hsz hdf h
        have eg : ac.tmps[52]? = some (.bool true) := by obtain ⟨v, h1, h2⟩ := h 52 (by decide +kernel); rw [h1]; exact congrArg some h2
        have es : ac.tmps[5]? = some (.pointer (some ⟨gx, 0, none⟩)) := by obtain ⟨v, h1, h2⟩ := h 5 (by decide +kernel); exact h1.trans (h2.symm.trans rfl)
        clear h hsz hdf
        refine load_dnH (j := 19) (b0 := true) (d := 52) rfl rfl eg (.tmp 5) rfl (g := gx) ?_ (HBX2.out.keep hE) ?_
        · simp [Act.eval, es]
        · exact ⟨_, rfl, rfl, Ext.refl _⟩
      · -- 23: t56 := call { value (Operand.func 21), args := #[t55], argTypes := #[40] } (19, True)
        intro ac wx hE hsz hdf h
        have e55 : ac.tmps[55]? = some (.agg (dnC kx mx zx px Bx nx cx).toArray) := by obtain ⟨v, h1, h2⟩ := h 55 (by decide +kernel); rw [h1]; exact congrArg some h2
        have e52 : ac.tmps[52]? = some (.bool true) := by obtain ⟨v, h1, h2⟩ := h 52 (by decide +kernel); rw [h1]; exact congrArg some h2
        clear h hsz hdf
        go_wp2_with ((go_at_call 20; refine (refNullable _ ta (Nat.le_refl _) _ _ (dnC kx mx zx px Bx nx cx) (HVX2.out.keep hE)).mono ?_; rintro e w9 ⟨rfl, hb9⟩; rw [HNL.out]))
        exact ⟨_, rfl, rfl, hb9⟩
      · -- 24: t57 := binOp BinOp.eql 4 t54 t56 4 (19, True)
        intro ac wx hE hsz hdf h
        have e54 : ac.tmps[54]? = some (.bool nl) := by obtain ⟨v, h1, h2⟩ := h 54 (by decide +kernel); rw [h1]; exact congrArg some h2
        have e56 : ac.tmps[56]? = some (.bool nl) := by obtain ⟨v, h1, h2⟩ := h 56 (by decide +kernel); rw [h1]; exact congrArg some h2
        have e52 : ac.tmps[52]? = some (.bool true) := by obtain ⟨v, h1, h2⟩ := h 52 (by decide +kernel); rw [h1]; exact congrArg some h2
        clear h hsz hdf
        go_wp2
        exact ⟨_, rfl, by simp, Ext.refl _⟩
      · -- 25: t58 := pick t52 t57 (const (Value.bool false)) 
        intro ac wx hE hsz hdf h
        have e52 : ac.tmps[52]? = some (.bool true) := by obtain ⟨v, h1, h2⟩ := h 52 (by decide +kernel); rw [h1]; exact congrArg some h2
        have e57 : ac.tmps[57]? = some (.bool true) := by obtain ⟨v, h1, h2⟩ := h 57 (by decide +kernel); rw [h1]; exact congrArg some h2
        clear h hsz hdf
        go_wp2
        exact ⟨_, rfl, rfl, Ext.refl _⟩
      · -- 26: t59 := move t58 
        intro ac wx hE hsz hdf h
        have e58 : ac.tmps[58]? = some (.bool true) := by obtain ⟨v, h1, h2⟩ := h 58 (by decide +kernel); rw [h1]; exact congrArg some h2
        clear h hsz hdf
        go_wp2
        exact ⟨_, rfl, rfl, Ext.refl _⟩
      · -- 27: t60 := load 28 t2 (26, True)
        intro ac wx hE hsz hdf h
        have e2 : ac.tmps[2]? = some (.pointer (some ⟨gA, 0, none⟩)) := by obtain ⟨v, h1, h2⟩ := h 2 (by decide +kernel); exact h1.trans (h2.symm.trans rfl)
        have e59 : ac.tmps[59]? = some (.bool true) := by obtain ⟨v, h1, h2⟩ := h 59 (by decide +kernel); rw [h1]; exact congrArg some h2
        clear h hsz hdf
        obtain ⟨y0, y1, y2, y3, y4, y5, y6, y7⟩ := (HBA2.out.keep hE).cells
        go_wp2
        exact ⟨_, rfl, rfl, Ext.refl _⟩
      · -- 28: t61 := call { value (Operand.func 11), args := #[t60], argTypes := #[28] } (26, True)
        intro ac wx hE hsz hdf h
        have e60 : ac.tmps[60]? = some (.agg #[.int .i64 ka, .int .i64 ma, .bool za, .int .u64 (wd pa 0 : Nat), .int .u64 (wd pa 1 : Nat), .int .u64 (wd pa 2 : Nat), .int .u64 (wd pa 3 : Nat), .slice Ba na ca]) := by obtain ⟨v, h1, h2⟩ := h 60 (by decide +kernel); rw [h1]; exact congrArg some h2
        have e59 : ac.tmps[59]? = some (.bool true) := by obtain ⟨v, h1, h2⟩ := h 59 (by decide +kernel); rw [h1]; exact congrArg some h2
        clear h hsz hdf
        go_wp2_with ((go_at_call 21; refine (rxSize _ ta (Nat.le_refl _) (by have := HSA.out; omega) _ _ (nodeC ka ma za pa Ba na ca) (HVA2.out.keep hE)).mono ?_; rintro e w9 ⟨rfl, hb9⟩; rw [HSZ.out]))
        exact ⟨_, rfl, rfl, hb9⟩
      · -- 29: t62 := move t9 (26, True)
        intro ac wx hE hsz hdf h
        have e9 : ac.tmps[9]? = some (.int .i64 (sz : Nat)) := by obtain ⟨v, h1, h2⟩ := h 9 (by decide +kernel); exact h1.trans (h2.symm.trans rfl)
        have e59 : ac.tmps[59]? = some (.bool true) := by obtain ⟨v, h1, h2⟩ := h 59 (by decide +kernel); rw [h1]; exact congrArg some h2
        clear h hsz hdf
        go_wp2
        exact ⟨_, rfl, rfl, Ext.refl _⟩
      · -- 30: t63 := binOp BinOp.eql 3 t61 t62 3 (26, True)
        intro ac wx hE hsz hdf h
        have e61 : ac.tmps[61]? = some (.int .i64 (sz : Nat)) := by obtain ⟨v, h1, h2⟩ := h 61 (by decide +kernel); rw [h1]; exact congrArg some h2
        have e62 : ac.tmps[62]? = some (.int .i64 (sz : Nat)) := by obtain ⟨v, h1, h2⟩ := h 62 (by decide +kernel); rw [h1]; exact congrArg some h2
        have e59 : ac.tmps[59]? = some (.bool true) := by obtain ⟨v, h1, h2⟩ := h 59 (by decide +kernel); rw [h1]; exact congrArg some h2
        clear h hsz hdf
        go_wp2
        exact ⟨_, rfl, rfl, Ext.refl _⟩
      · -- 31: t64 := pick t59 t63 (const (Value.bool false)) 
        intro ac wx hE hsz hdf h
        have e59 : ac.tmps[59]? = some (.bool true) := by obtain ⟨v, h1, h2⟩ := h 59 (by decide +kernel); rw [h1]; exact congrArg some h2
        have e63 : ac.tmps[63]? = some (.bool true) := by obtain ⟨v, h1, h2⟩ := h 63 (by decide +kernel); rw [h1]; exact congrArg some h2
        clear h hsz hdf
        go_wp2
        exact ⟨_, rfl, rfl, Ext.refl _⟩
      · -- 32: t65 := move t64 
        intro ac wx hE hsz hdf h
        have e64 : ac.tmps[64]? = some (.bool true) := by obtain ⟨v, h1, h2⟩ := h 64 (by decide +kernel); rw [h1]; exact congrArg some h2
        clear h hsz hdf
        go_wp2
        exact ⟨_, rfl, rfl, Ext.refl _⟩
      · -- 33: t66 := load 28 t2 (32, True)
        intro ac wx hE hsz hdf h
        have e2 : ac.tmps[2]? = some (.pointer (some ⟨gA, 0, none⟩)) := by obtain ⟨v, h1, h2⟩ := h 2 (by decide +kernel); exact h1.trans (h2.symm.trans rfl)
        have e65 : ac.tmps[65]? = some (.bool true) := by obtain ⟨v, h1, h2⟩ := h 65 (by decide +kernel); rw [h1]; exact congrArg some h2
        clear h hsz hdf
        obtain ⟨y0, y1, y2, y3, y4, y5, y6, y7⟩ := (HBA2.out.keep hE).cells
        go_wp2
        exact ⟨_, rfl, rfl, Ext.refl _⟩
      · -- 34: t67 := call { value (Operand.func 9), args := #[t66], argTypes := #[28] } (32, True)
        intro ac wx hE hsz hdf h
        have e66 : ac.tmps[66]? = some (.agg #[.int .i64 ka, .int .i64 ma, .bool za, .int .u64 (wd pa 0 : Nat), .int .u64 (wd pa 1 : Nat), .int .u64 (wd pa 2 : Nat), .int .u64 (wd pa 3 : Nat), .slice Ba na ca]) := by obtain ⟨v, h1, h2⟩ := h 66 (by decide +kernel); rw [h1]; exact congrArg some h2
        have e65 : ac.tmps[65]? = some (.bool true) := by obtain ⟨v, h1, h2⟩ := h 65 (by decide +kernel); rw [h1]; exact congrArg some h2
        clear h hsz hdf
        go_wp2_with ((go_at_call 22; refine (rxGroups _ ta (Nat.le_refl _) (by have := HSA.out; omega) _ _ (nodeC ka ma za pa Ba na ca) (HVA2.out.keep hE)).mono ?_; rintro e w9 ⟨rfl, hb9⟩; rw [HGR.out]))
        exact ⟨_, rfl, rfl, hb9⟩
      · -- 35: t68 := move t10 (32, True)
        intro ac wx hE hsz hdf h
        have e10 : ac.tmps[10]? = some (.int .i64 (gr : Nat)) := by obtain ⟨v, h1, h2⟩ := h 10 (by decide +kernel); exact h1.trans (h2.symm.trans rfl)
        have e65 : ac.tmps[65]? = some (.bool true) := by obtain ⟨v, h1, h2⟩ := h 65 (by decide +kernel); rw [h1]; exact congrArg some h2
        clear h hsz hdf
        go_wp2
        exact ⟨_, rfl, rfl, Ext.refl _⟩
      · -- 36: t69 := binOp BinOp.eql 3 t67 t68 3 (32, True)
        intro ac wx hE hsz hdf h
        have e67 : ac.tmps[67]? = some (.int .i64 (gr : Nat)) := by obtain ⟨v, h1, h2⟩ := h 67 (by decide +kernel); rw [h1]; exact congrArg some h2
        have e68 : ac.tmps[68]? = some (.int .i64 (gr : Nat)) := by obtain ⟨v, h1, h2⟩ := h 68 (by decide +kernel); rw [h1]; exact congrArg some h2
        have e65 : ac.tmps[65]? = some (.bool true) := by obtain ⟨v, h1, h2⟩ := h 65 (by decide +kernel); rw [h1]; exact congrArg some h2
        clear h hsz hdf
        go_wp2
        exact ⟨_, rfl, rfl, Ext.refl _⟩
      · -- 37: t70 := pick t65 t69 (const (Value.bool false)) 
        intro ac wx hE hsz hdf h
        have e65 : ac.tmps[65]? = some (.bool true) := by obtain ⟨v, h1, h2⟩ := h 65 (by decide +kernel); rw [h1]; exact congrArg some h2
        have e69 : ac.tmps[69]? = some (.bool true) := by obtain ⟨v, h1, h2⟩ := h 69 (by decide +kernel); rw [h1]; exact congrArg some h2
        clear h hsz hdf
        go_wp2
        exact ⟨_, rfl, rfl, Ext.refl _⟩
      · -- 38: t4 := assign t70 
        intro ac wx hE hsz hdf h
        have e70 : ac.tmps[70]? = some (.bool true) := by obtain ⟨v, h1, h2⟩ := h 70 (by decide +kernel); rw [h1]; exact congrArg some h2
        clear h hsz hdf
        go_wp2
        exact ⟨_, rfl, rfl, Ext.refl _⟩
      · intro ac w9 hE hsz hdf h hrest
        obtain ⟨v0, s0, g0⟩ := h 0 _ rfl
        have e0 := g0 33 rfl
        obtain rfl : v0 = .agg #[.int .i64 ka, .int .i64 ma, .bool za, .int .u64 (wd pa 0 : Nat), .int .u64 (wd pa 1 : Nat), .int .u64 (wd pa 2 : Nat), .int .u64 (wd pa 3 : Nat), .slice Ba na ca] := s0
        obtain ⟨v1, s1, g1⟩ := h 1 _ rfl
        have e1 := g1 34 rfl
        obtain rfl : v1 = .bool true := s1
        obtain ⟨v2, s2, g2⟩ := h 2 _ rfl
        have e2 := g2 35 rfl
        obtain rfl : v2 = .bool true := s2
        obtain ⟨v3, s3, g3⟩ := h 3 _ rfl
        have e3 := g3 36 rfl
        obtain rfl : v3 = .bool true := s3
        obtain ⟨v4, s4, g4⟩ := h 4 _ rfl
        have e4 := g4 37 rfl
        obtain rfl : v4 = .bool true := s4
        obtain ⟨v5, s5, g5⟩ := h 5 _ rfl
        have e5 := g5 38 rfl
        obtain rfl : v5 = .agg #[.int .i64 ka, .int .i64 ma, .bool za, .int .u64 (wd pa 0 : Nat), .int .u64 (wd pa 1 : Nat), .int .u64 (wd pa 2 : Nat), .int .u64 (wd pa 3 : Nat), .slice Ba na ca] := s5
        obtain ⟨v6, s6, g6⟩ := h 6 _ rfl
        have e6 := g6 39 rfl
        obtain rfl : v6 = .string ⟨ta.text.toArray⟩ := s6
        obtain ⟨v7, s7, g7⟩ := h 7 _ rfl
        have e7 := g7 40 rfl
        obtain rfl : v7 = .string ⟨ta.text.toArray⟩ := s7
        obtain ⟨v8, s8, g8⟩ := h 8 _ rfl
        have e8 := g8 41 rfl
        obtain rfl : v8 = .bool true := s8
        obtain ⟨v9, s9, g9⟩ := h 9 _ rfl
        have e9 := g9 42 rfl
        obtain rfl : v9 = .bool true := s9
        obtain ⟨v10, s10, g10⟩ := h 10 _ rfl
        have e10 := g10 43 rfl
        obtain rfl : v10 = .bool true := s10
        obtain ⟨v11, s11, g11⟩ := h 11 _ rfl
        have e11 := g11 44 rfl
        obtain rfl : v11 = .agg #[.int .i64 ka, .int .i64 ma, .bool za, .int .u64 (wd pa 0 : Nat), .int .u64 (wd pa 1 : Nat), .int .u64 (wd pa 2 : Nat), .int .u64 (wd pa 3 : Nat), .slice Ba na ca] := s11
        obtain ⟨v12, s12, g12⟩ := h 12 _ rfl
        have e12 := g12 45 rfl
        obtain rfl : v12 = .agg #[.int .i64 kb, .int .i64 mb, .bool zb, .int .u64 (wd pb 0 : Nat), .int .u64 (wd pb 1 : Nat), .int .u64 (wd pb 2 : Nat), .int .u64 (wd pb 3 : Nat), .slice Bb nb cb] := s12
        obtain ⟨v13, s13, g13⟩ := h 13 _ rfl
        have e13 := g13 46 rfl
        obtain rfl : v13 = .bool sm := s13
        obtain ⟨v14, s14, g14⟩ := h 14 _ rfl
        have e14 := g14 47 rfl
        obtain rfl : v14 = .agg (dnC kx mx zx px Bx nx cx).toArray := s14
        obtain ⟨v15, s15, g15⟩ := h 15 _ rfl
        have e15 := g15 48 rfl
        obtain rfl : v15 = .agg (dnC ky my zy py By ny cy).toArray := s15
        obtain ⟨v16, s16, g16⟩ := h 16 _ rfl
        have e16 := g16 49 rfl
        obtain rfl : v16 = .bool sm := s16
        obtain ⟨v17, s17, g17⟩ := h 17 _ rfl
        have e17 := g17 50 rfl
        obtain rfl : v17 = .bool true := s17
        obtain ⟨v18, s18, g18⟩ := h 18 _ rfl
        have e18 := g18 51 rfl
        obtain rfl : v18 = .bool true := s18
        obtain ⟨v19, s19, g19⟩ := h 19 _ rfl
        have e19 := g19 52 rfl
        obtain rfl : v19 = .bool true := s19
        obtain ⟨v20, s20, g20⟩ := h 20 _ rfl
        have e20 := g20 53 rfl
        obtain rfl : v20 = .agg #[.int .i64 ka, .int .i64 ma, .bool za, .int .u64 (wd pa 0 : Nat), .int .u64 (wd pa 1 : Nat), .int .u64 (wd pa 2 : Nat), .int .u64 (wd pa 3 : Nat), .slice Ba na ca] := s20
        obtain ⟨v21, s21, g21⟩ := h 21 _ rfl
        have e21 := g21 54 rfl
        obtain rfl : v21 = .bool nl := s21
        obtain ⟨v22, s22, g22⟩ := h 22 _ rfl
        have e22 := g22 55 rfl
        obtain rfl : v22 = .agg (dnC kx mx zx px Bx nx cx).toArray := s22
        obtain ⟨v23, s23, g23⟩ := h 23 _ rfl
        have e23 := g23 56 rfl
        obtain rfl : v23 = .bool nl := s23
        obtain ⟨v24, s24, g24⟩ := h 24 _ rfl
        have e24 := g24 57 rfl
        obtain rfl : v24 = .bool true := s24
        obtain ⟨v25, s25, g25⟩ := h 25 _ rfl
        have e25 := g25 58 rfl
        obtain rfl : v25 = .bool true := s25
        obtain ⟨v26, s26, g26⟩ := h 26 _ rfl
        have e26 := g26 59 rfl
        obtain rfl : v26 = .bool true := s26
        obtain ⟨v27, s27, g27⟩ := h 27 _ rfl
        have e27 := g27 60 rfl
        obtain rfl : v27 = .agg #[.int .i64 ka, .int .i64 ma, .bool za, .int .u64 (wd pa 0 : Nat), .int .u64 (wd pa 1 : Nat), .int .u64 (wd pa 2 : Nat), .int .u64 (wd pa 3 : Nat), .slice Ba na ca] := s27
        obtain ⟨v28, s28, g28⟩ := h 28 _ rfl
        have e28 := g28 61 rfl
        obtain rfl : v28 = .int .i64 (sz : Nat) := s28
        obtain ⟨v29, s29, g29⟩ := h 29 _ rfl
        have e29 := g29 62 rfl
        obtain rfl : v29 = .int .i64 (sz : Nat) := s29
        obtain ⟨v30, s30, g30⟩ := h 30 _ rfl
        have e30 := g30 63 rfl
        obtain rfl : v30 = .bool true := s30
        obtain ⟨v31, s31, g31⟩ := h 31 _ rfl
        have e31 := g31 64 rfl
        obtain rfl : v31 = .bool true := s31
        obtain ⟨v32, s32, g32⟩ := h 32 _ rfl
        have e32 := g32 65 rfl
        obtain rfl : v32 = .bool true := s32
        obtain ⟨v33, s33, g33⟩ := h 33 _ rfl
        have e33 := g33 66 rfl
        obtain rfl : v33 = .agg #[.int .i64 ka, .int .i64 ma, .bool za, .int .u64 (wd pa 0 : Nat), .int .u64 (wd pa 1 : Nat), .int .u64 (wd pa 2 : Nat), .int .u64 (wd pa 3 : Nat), .slice Ba na ca] := s33
        obtain ⟨v34, s34, g34⟩ := h 34 _ rfl
        have e34 := g34 67 rfl
        obtain rfl : v34 = .int .i64 (gr : Nat) := s34
        obtain ⟨v35, s35, g35⟩ := h 35 _ rfl
        have e35 := g35 68 rfl
        obtain rfl : v35 = .int .i64 (gr : Nat) := s35
        obtain ⟨v36, s36, g36⟩ := h 36 _ rfl
        have e36 := g36 69 rfl
        obtain rfl : v36 = .bool true := s36
        obtain ⟨v37, s37, g37⟩ := h 37 _ rfl
        have e37 := g37 70 rfl
        obtain rfl : v37 = .bool true := s37
        obtain ⟨v38, s38, g38⟩ := h 38 _ rfl
        have e38 := g38 4 rfl
        obtain rfl : v38 = .bool true := s38
        have ha := act_of [(33, .agg #[.int .i64 ka, .int .i64 ma, .bool za, .int .u64 (wd pa 0 : Nat), .int .u64 (wd pa 1 : Nat), .int .u64 (wd pa 2 : Nat), .int .u64 (wd pa 3 : Nat), .slice Ba na ca]), (34, .bool true), (35, .bool true), (36, .bool true), (37, .bool true), (38, .agg #[.int .i64 ka, .int .i64 ma, .bool za, .int .u64 (wd pa 0 : Nat), .int .u64 (wd pa 1 : Nat), .int .u64 (wd pa 2 : Nat), .int .u64 (wd pa 3 : Nat), .slice Ba na ca]), (39, .string ⟨ta.text.toArray⟩), (40, .string ⟨ta.text.toArray⟩), (41, .bool true), (42, .bool true), (43, .bool true), (44, .agg #[.int .i64 ka, .int .i64 ma, .bool za, .int .u64 (wd pa 0 : Nat), .int .u64 (wd pa 1 : Nat), .int .u64 (wd pa 2 : Nat), .int .u64 (wd pa 3 : Nat), .slice Ba na ca]), (45, .agg #[.int .i64 kb, .int .i64 mb, .bool zb, .int .u64 (wd pb 0 : Nat), .int .u64 (wd pb 1 : Nat), .int .u64 (wd pb 2 : Nat), .int .u64 (wd pb 3 : Nat), .slice Bb nb cb]), (46, .bool sm), (47, .agg (dnC kx mx zx px Bx nx cx).toArray), (48, .agg (dnC ky my zy py By ny cy).toArray), (49, .bool sm), (50, .bool true), (51, .bool true), (52, .bool true), (53, .agg #[.int .i64 ka, .int .i64 ma, .bool za, .int .u64 (wd pa 0 : Nat), .int .u64 (wd pa 1 : Nat), .int .u64 (wd pa 2 : Nat), .int .u64 (wd pa 3 : Nat), .slice Ba na ca]), (54, .bool nl), (55, .agg (dnC kx mx zx px Bx nx cx).toArray), (56, .bool nl), (57, .bool true), (58, .bool true), (59, .bool true), (60, .agg #[.int .i64 ka, .int .i64 ma, .bool za, .int .u64 (wd pa 0 : Nat), .int .u64 (wd pa 1 : Nat), .int .u64 (wd pa 2 : Nat), .int .u64 (wd pa 3 : Nat), .slice Ba na ca]), (61, .int .i64 (sz : Nat)), (62, .int .i64 (sz : Nat)), (63, .bool true), (64, .bool true), (65, .bool true), (66, .agg #[.int .i64 ka, .int .i64 ma, .bool za, .int .u64 (wd pa 0 : Nat), .int .u64 (wd pa 1 : Nat), .int .u64 (wd pa 2 : Nat), .int .u64 (wd pa 3 : Nat), .slice Ba na ca]), (67, .int .i64 (gr : Nat)), (68, .int .i64 (gr : Nat)), (69, .bool true), (70, .bool true), (4, .bool true)] rfl hsz hdf (by intro p hp; simp only [List.mem_cons, List.not_mem_nil, or_false] at hp; rcases hp with rfl | rfl | rfl | rfl | rfl | rfl | rfl | rfl | rfl | rfl | rfl | rfl | rfl | rfl | rfl | rfl | rfl | rfl | rfl | rfl | rfl | rfl | rfl | rfl | rfl | rfl | rfl | rfl | rfl | rfl | rfl | rfl | rfl | rfl | rfl | rfl | rfl | rfl | rfl <;> first | exact e0 | exact e1 | exact e2 | exact e3 | exact e4 | exact e5 | exact e6 | exact e7 | exact e8 | exact e9 | exact e10 | exact e11 | exact e12 | exact e13 | exact e14 | exact e15 | exact e16 | exact e17 | exact e18 | exact e19 | exact e20 | exact e21 | exact e22 | exact e23 | exact e24 | exact e25 | exact e26 | exact e27 | exact e28 | exact e29 | exact e30 | exact e31 | exact e32 | exact e33 | exact e34 | exact e35 | exact e36 | exact e37 | exact e38) hrest
        clear h hrest hsz hdf e0 e1 e2 e3 e4 e5 e6 e7 e8 e9 e10 e11 e12 e13 e14 e15 e16 e17 e18 e19 e20 e21 e22 e23 e24 e25 e26 e27 e28 e29 e30 e31 e32 e33 e34 e35 e36 e37 e38 g0 g1 g2 g3 g4 g5 g6 g7 g8 g9 g10 g11 g12 g13 g14 g15 g16 g17 g18 g19 g20 g21 g22 g23 g24 g25 g26 g27 g28 g29 g30 g31 g32 g33 g34 g35 g36 g37 g38
        subst ha
        simp only [List.foldl_cons, List.foldl_nil, Act.put, List.setIfInBounds_toArray, List.set_cons_succ, List.set_cons_zero]
        go_wp2
        go_ret
        exact ⟨rfl, Ext.trans HX2.out hE⟩
end Go.Proofs.YtnkhiohopcadmaaDoor
