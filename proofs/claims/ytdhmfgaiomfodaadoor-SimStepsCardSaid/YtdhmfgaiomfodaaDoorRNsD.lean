/- Put together: Sm8, Sm9, Sm10. -/
import Derived.Test.YtdhmfgaiomfodaaDoorRTgL
import Derived.Test.YtdhmfgaiomfodaaDoorRNsB
import Derived.Test.YtdhmfgaiomfodaaDoorRNsA
import Derived.Test.YtdhmfgaiomfodaaDoorRMn4
import Derived.ScopeJumps
import Derived.WalkMore
import Derived.BigQuiet
import Derived.BigRegion
import Derived.Shelf.Bits.Mul64
namespace Go.Proofs.YtdhmfgaiomfodaaDoor
open Go Go.RowKit

/-- As Q; by a goto to a label of c: what stands from there on, with one jump less. -/
def hops (P : Program) (c : Code) (Q : Exit → Act → World → Prop) : Nat → Exit → Act → World → Prop
  | 0, .goto _, _, _ => False
  | n + 1, .goto l, a, w => ∃ rest, findLabel c l = some rest ∧ rest.wp P (hops P c Q n) a w
  | _, e, a, w => Q e a w

section
variable {P : Program} {a : Act} {w : World} {Q : Exit → Act → World → Prop} {c : Code} {n l : Nat}
@[go_sem] theorem hops_normal : hops P c Q n .normal a w = Q .normal a w := by cases n <;> rfl
@[go_sem] theorem hops_exit (id : Nat) : hops P c Q n (.exit id) a w = Q (.exit id) a w := by cases n <;> rfl
@[go_sem] theorem hops_ret : hops P c Q n .ret a w = Q .ret a w := by cases n <;> rfl
@[go_sem] theorem hops_panic (ch : List PanicEntry) : hops P c Q n (.panic ch) a w = Q (.panic ch) a w := by cases n <;> rfl
end

/-- Rows of different types lie apart. -/
theorem own_apart {w : World} {b1 b2 s1 s2 n1 n2 : Nat} {e1 e2 : TypeId} {v1 v2 : Value} {x1 x2 : List Value} (h1 : w.ownsRow b1 e1 s1 v1 n1 x1) (h2 : w.ownsRow b2 e2 s2 v2 n2 x2) (he : e1 ≠ e2) {k : Nat} (hk : v1.ownBlock = some k) : v2.ownBlock ≠ some k := by
  intro hk2
  rcases h1.2 with ⟨rfl, _⟩ | ⟨g, cap, cur, rfl, _, hg, _⟩
  · cases hk
  · rcases h2.2 with ⟨rfl, _⟩ | ⟨g', cap', cur', rfl, _, hg', _⟩
    · cases hk2
    · simp only [Value.ownBlock, Option.some.injEq] at hk hk2
      subst hk
      subst hk2
      rw [hg] at hg'
      cases hg'
      exact he rfl
theorem own_ints_rd {w : World} {base : Nat} {v : Value} {l : List Int} (h : w.ownsRow base 3 1 v l.length (intsV l)) : ∃ A c, v = .slice A l.length c ∧ l.length ≤ c ∧ c ≤ maxLen ∧ Rd w 1 A l.length (intsV l) := own_rd h
/-- Base less. -/
theorem own_base {w : World} {b b' size n : Nat} {e : TypeId} {v : Value} {xs : List Value} (h : w.ownsRow b e size v n xs) (hb : b' ≤ b) : w.ownsRow b' e size v n xs := by
  refine ⟨h.1, ?_⟩
  rcases h.2 with h1 | ⟨g, cap, cur, h1, h2, h3⟩
  · exact .inl h1
  · exact .inr ⟨g, cap, cur, h1, Nat.le_trans hb h2, h3⟩

/-- A captures' row of one's own, above a block. -/
def CapV (b : Nat) (w : World) (cv : Value) (l : List Int) : Prop := w.ownsRow (b + 1) 3 1 cv l.length (intsV l)
/-- Ways, cell by cell. -/
def WaysV (b : Nat) (w : World) : List Way → List Value → Prop
  | [], cs => cs = []
  | a :: W, cs => ∃ cv rest, cs = .int .i64 (a.1 : Nat) :: .int .i64 a.2.1 :: cv :: rest ∧ CapV b w cv a.2.2 ∧ WaysV b w W rest
theorem WaysV.map {b : Nat} {w w' : World} (hm : ∀ cv l, CapV b w cv l → CapV b w' cv l) : ∀ {W : List Way} {cs : List Value}, WaysV b w W cs → WaysV b w' W cs
  | [], _, h => h
  | _ :: _, _, ⟨cv, rest, h1, h2, h3⟩ => ⟨cv, rest, h1, hm cv _ h2, WaysV.map hm h3⟩
theorem WaysV.keep {b : Nat} {w w' : World} {W : List Way} {cs : List Value} (h : WaysV b w W cs) (hx : Ext w w') : WaysV b w' W cs := h.map fun _ _ h => own_ext h hx
theorem WaysV.len {b : Nat} {w : World} : ∀ {W : List Way} {cs : List Value}, WaysV b w W cs → cs.length = W.length * 3
  | [], _, h => by cases h; rfl
  | _ :: W, _, ⟨cv, rest, h1, h2, h3⟩ => by rw [h1]; simp only [List.length_cons]; rw [h3.len]; omega
theorem WaysV.app {b : Nat} {w : World} {a : Way} {cv : Value} (hc : CapV b w cv a.2.2) : ∀ {W : List Way} {cs : List Value}, WaysV b w W cs → WaysV b w (W ++ [a]) (cs ++ [.int .i64 (a.1 : Nat), .int .i64 a.2.1, cv])
  | [], _, h => by cases h; exact ⟨cv, [], rfl, hc, rfl⟩
  | _ :: W, _, ⟨cv', rest, h1, h2, h3⟩ => by subst h1; exact ⟨cv', rest ++ [.int .i64 (a.1 : Nat), .int .i64 a.2.1, cv], rfl, h2, h3.app hc⟩
theorem WaysV.get {b : Nat} {w : World} : ∀ {W : List Way} {cs : List Value} {j : Nat} {a : Way}, WaysV b w W cs → W[j]? = some a →
    ∃ cv, CapV b w cv a.2.2 ∧ cs[j * 3]? = some (.int .i64 (a.1 : Nat)) ∧ cs[j * 3 + 1]? = some (.int .i64 a.2.1) ∧ cs[j * 3 + 2]? = some cv
  | [], _, _, _, _, e => by cases e
  | x :: W, cs, 0, a, ⟨cv, rest, h1, h2, h3⟩, e => by cases e; subst h1; exact ⟨cv, h2, rfl, rfl, rfl⟩
  | x :: W, cs, j + 1, a, ⟨cv, rest, h1, h2, h3⟩, e => by
    obtain ⟨cv', a1, a2, a3, a4⟩ := h3.get (j := j) (a := a) (by simpa using e)
    subst h1
    refine ⟨cv', a1, ?_, ?_, ?_⟩
    · rw [show (j + 1) * 3 = j * 3 + 1 + 1 + 1 by omega]; simpa using a2
    · rw [show (j + 1) * 3 + 1 = j * 3 + 1 + 1 + 1 + 1 by omega]; simpa using a3
    · rw [show (j + 1) * 3 + 2 = j * 3 + 2 + 1 + 1 + 1 by omega]; simpa using a4

/-- What a run has from its beginning on: its program, and where it lies. -/
structure RS where
  A : Option Addr
  cc : Nat
  c : List Ins
  G : Nat
  gr : Nat
  gs : Nat
structure RunM (R : RS) (w : World) (pos : Int) (v : Value) (cs : List Value) (W : List Way) (sv : List Int) (turn : Int) : Prop where
  blk : Blk w R.gr 103 [.slice R.A R.c.length R.cc, .int .i64 (R.G : Nat), .int .i64 pos, v, .slice (some ⟨R.gs, 0, none⟩) R.c.length R.c.length, .int .i64 turn]
  code : Rd w 8 R.A R.c.length (codeV R.c)
  low : ∀ b o x, R.A = some ⟨b, o, x⟩ → b < R.gs
  ord : R.gs < R.gr
  seen : Blk w R.gs 3 (intsV sv)
  len : sv.length = R.c.length
  own : w.ownsRow (R.gr + 1) 113 3 v W.length cs
  ways : WaysV R.gr w W cs
theorem RunM.keep {R : RS} {w w' : World} {pos : Int} {v : Value} {cs : List Value} {W : List Way} {sv : List Int} {turn : Int} (h : RunM R w pos v cs W sv turn) (hx : Ext w w') : RunM R w' pos v cs W sv turn :=
  ⟨h.blk.keep hx, h.code.keep hx, h.low, h.ord, h.seen.keep hx, h.len, own_ext h.own hx, h.ways.keep hx⟩
theorem RunM.sh {R : RS} {w : World} {pos : Int} {v : Value} {cs : List Value} {W : List Way} {sv : List Int} {turn : Int} (h : RunM R w pos v cs W sv turn) : ∃ A c, v = .slice A W.length c ∧ W.length ≤ c ∧ c ≤ maxLen ∧ Rd w 3 A W.length cs := own_rd h.own
/-- What has turned. -/
structure RN (R : RS) (w : World) (v : Value) (w' : World) (v' : Value) : Prop where
  ch : Chg (R.gr :: R.gs :: v.ownBlock.toList) w w'
  at_ : ∀ k, v'.ownBlock = some k → v.ownBlock = some k ∨ w.heap.size ≤ k
theorem RN.refl {R : RS} {w : World} {v : Value} : RN R w v w v := ⟨Chg.refl _ _, fun _ h => .inl h⟩
theorem RN.ext {R : RS} {w w' : World} {v : Value} (h : Ext w w') : RN R w v w' v := ⟨.of_ext h, fun _ h => .inl h⟩
theorem RN.trans {R : RS} {w w1 w2 : World} {v v1 v2 : Value} (h : RN R w v w1 v1) (k : RN R w1 v1 w2 v2) : RN R w v w2 v2 := by
  refine ⟨h.ch.more k.ch fun y hy => ?_, fun j hj => ?_⟩
  · rcases List.mem_cons.1 hy with rfl | hy
    · exact .inl (by simp)
    · rcases List.mem_cons.1 hy with rfl | hy
      · exact .inl (by simp)
      · rcases h.at_ y (by simpa using hy) with e | e
        · exact .inl (by simp [e])
        · exact .inr e
  · rcases k.at_ j hj with e | e
    · exact h.at_ j e
    · exact .inr (Nat.le_trans h.ch.size e)
theorem RN.then_ext {R : RS} {w w1 w2 : World} {v v1 : Value} (h : RN R w v w1 v1) (k : Ext w1 w2) : RN R w v w2 v1 := h.trans (RN.ext k)
/-- Captures stay, whatever of the run turns. -/
theorem CapV.chg {R : RS} {w w' : World} {v cv : Value} {l : List Int} {n : Nat} {cs : List Value} (h : CapV R.gr w cv l) (ho : w.ownsRow (R.gr + 1) 113 3 v n cs) (hs : R.gs < R.gr) (hc : Chg (R.gr :: R.gs :: v.ownBlock.toList) w w') : CapV R.gr w' cv l := by
  refine own_chg h hc fun k hk hm => ?_
  have h1 := (h.lt k hk).1
  rcases List.mem_cons.1 hm with rfl | hm
  · omega
  · rcases List.mem_cons.1 hm with rfl | hm
    · omega
    · exact own_apart h ho (by decide) hk (by simpa using hm)
/-- One of the run's own blocks that is none of these stays. -/
theorem RunM.cap {R : RS} {w w' : World} {pos : Int} {v cv : Value} {l : List Int} {cs : List Value} {W : List Way} {sv : List Int} {turn : Int} (h : RunM R w pos v cs W sv turn) (hc : CapV R.gr w cv l) {v' : Value} (hn : RN R w v w' v') : CapV R.gr w' cv l := hc.chg h.own h.ord hn.ch
theorem RunM.lt {R : RS} {w : World} {pos : Int} {v : Value} {cs : List Value} {W : List Way} {sv : List Int} {turn : Int} (h : RunM R w pos v cs W sv turn) : ∀ x ∈ R.gr :: R.gs :: v.ownBlock.toList, x < w.heap.size := by
  intro x hx
  rcases List.mem_cons.1 hx with rfl | hx
  · exact h.blk.lt
  · rcases List.mem_cons.1 hx with rfl | hx
    · exact h.seen.lt
    · exact (h.own.lt x (by simpa using hx)).2
/-- The code stays. -/
theorem RunM.codeX {R : RS} {w : World} {pos : Int} {v : Value} {cs : List Value} {W : List Way} {sv : List Int} {turn : Int} (h : RunM R w pos v cs W sv turn) : ∀ b o x, R.A = some ⟨b, o, x⟩ → b ∉ R.gr :: R.gs :: v.ownBlock.toList := by
  intro b o x e hm
  have h1 := h.low b o x e
  have h2 := h.ord
  rcases List.mem_cons.1 hm with rfl | hm
  · omega
  · rcases List.mem_cons.1 hm with rfl | hm
    · omega
    · have := (h.own.lt b (by simpa using hm)).1; omega
/-- An instruction's cells. -/
theorem code_cells {w : World} {A : Option Addr} {c : List Ins} (h : Rd w 8 A c.length (codeV c)) {pc : Nat} {i : Ins} (hi : c[pc]? = some i) : ∃ b o, A = some ⟨b, o, none⟩ ∧ ∀ j u, (insV i)[j]? = some u → w.cell? ⟨b, o + (pc * 8 + j), none⟩ = some u := by
  have hlt := (List.getElem?_eq_some_iff.1 hi).1
  obtain ⟨b, o, e, _, hc⟩ := h.2 (by rw [codeV_len]; omega)
  refine ⟨b, o, e, fun j u hu => ?_⟩
  have hj := (List.getElem?_eq_some_iff.1 hu).1
  have h8 : (insV i).length = 8 := rfl
  have e2 : (codeV c)[pc * 8 + j]? = some u := by
    have e3 : c = c.take pc ++ i :: c.drop (pc + 1) := by
      obtain ⟨_, rfl⟩ := List.getElem?_eq_some_iff.1 hi
      rw [← List.drop_eq_getElem_cons hlt, List.take_append_drop]
    have hl : (c.take pc).length = pc := by rw [List.length_take]; omega
    have e4 : codeV c = codeV (c.take pc) ++ (insV i ++ codeV (c.drop (pc + 1))) := by
      conv => lhs; rw [e3]
      rw [codeV_app]; rfl
    rw [e4, List.getElem?_append_right (by rw [codeV_len, hl]; omega), codeV_len, hl, Nat.add_sub_cancel_left, List.getElem?_append_left (by omega)]
    exact hu
  exact hc _ _ e2
end Go.Proofs.YtdhmfgaiomfodaaDoor
namespace Go.Proofs.YtdhmfgaiomfodaaDoor
open Go Go.RowKit

set_option maxHeartbeats 400000 in
theorem intsClone (l : List Int) (A : Option Addr) (n c : Nat) (w : World) (hr : Rd w 1 A n (intsV l)) (hn : n ≤ 1000000) :
    Calls Tryd.prog 60 #[.slice A n c] w fun e w' => ∃ v, e = .returned v ∧ w'.ownsRow w.heap.size 3 1 v l.length (intsV l) ∧ Ext w w' := by
  have hl := hr.len_ints
  cases A with
  | none =>
    have h0 : l = [] := by
      by_cases h : 0 < l.length
      · obtain ⟨b, o, e, _⟩ := hr.2 (by simpa [intsV] using h); cases e
      · exact List.eq_nil_of_length_eq_zero (by omega)
    subst h0
    simp at hl
    subst hl
    have hne := fun w => Lib.run_eql_slice_nil (P := Tryd.prog) w 52 3 none 0 c 0 0 Tryd.underlying52
    go_enter Tryd.func60, Tryd.ntmps60
    go_wp2
    go_ret
    exact ⟨_, rfl, World.ownsRow_nil _ _ _ _, Ext.refl _⟩
  | some a =>
    have hne := fun w => Lib.run_eql_slice_nil (P := Tryd.prog) w 52 3 (some a) n c 0 0 Tryd.underlying52
    have HL := Lib.hid hl
    clear hl
    go_enter Tryd.func60, Tryd.ntmps60
    go_wp2_with (at_builtin; refine wpList_app2 Tryd.elemI rfl (.tmp 5) (.tmp 6) rfl (v := .slice (some ⟨w.heap.size, 0, none⟩) 0 0) (n := 0) rfl (own_empty w 3 1) (by simp) rfl (hr.keep (Ext.new1 _ _)) (one_intsV _) (by omega) (by unfold maxLen; omega) ?_; intro v1 w1 hown1 hg1 _ _; have hb1 := hg1.below ((Below.refl w.heap.size w).alloc (Nat.le_refl _) _) (Nat.le_refl _) (by simp); clear hg1)
    go_ret
    refine ⟨_, rfl, ?_, hb1⟩
    rw [HL.out]
    simpa using hown1

set_option maxHeartbeats 1000000 in
theorem mul64one (y : Nat) (hy : y ≤ 1000) (w : World) :
    Calls Tryd.prog 98 #[.int .u64 1, .int .u64 (y : Nat)] w fun e w' => e = .returned (.tuple #[.int .u64 0, .int .u64 (y : Nat)]) ∧ w' = w := by
  have hm : bits .and .u64 (y : Int) 4294967295 = (y : Int) := by
    have := Mul64.maskN y (by omega)
    rwa [Nat.mod_eq_of_lt (by omega)] at this
  have hd : (y : Int) / 4294967296 = 0 := by omega
  have hw : IntKind.u64.wrap (y : Int) = y := Mul64.wrapN y (by omega)
  have h1 : bits .and .u64 1 4294967295 = 1 := Mul64.maskN 1 (by omega)
  have h0 : bits .and .u64 0 4294967295 = 0 := Mul64.maskN 0 (by omega)
  have hw0 : IntKind.u64.wrap 0 = 0 := Mul64.wrapN 0 (by omega)
  have H := Lib.hid (And.intro h1 (And.intro h0 (And.intro hw (And.intro hw0 hd))))
  clear hy h1 h0 hw hw0
  go_enter Tryd.func98, Tryd.ntmps98
  go_wp2
  go_ret2
  obtain ⟨h1, h0, hw, hw0, hd⟩ := H.out
  refine ⟨?_, rfl⟩
  simp [h1, h0, hw, hw0, hd]
set_option maxHeartbeats 1000000 in
theorem mulOne (y : Nat) (hy : y ≤ 1000) (w : World) :
    Calls Tryd.prog 80 #[.int .u64 1, .int .u64 (y : Nat)] w fun e w' => e = .returned (.tuple #[.int .u64 0, .int .u64 (y : Nat)]) ∧ w' = w := by
  have HY := Lib.hid hy
  clear hy
  go_enter Tryd.func80, Tryd.ntmps80
  go_wp2_with (go_at_call 98; refine (mul64one y HY.out w).mono ?_; rintro e wh ⟨rfl, hwh⟩; obtain rfl : w = wh := hwh.symm)
  go_ret2
  exact ⟨rfl, rfl⟩
theorem splice_rep (X Z : Value) (n m : Nat) (h : m ≤ n) : splice (List.replicate m X ++ List.replicate (n - m) Z) m ((List.replicate m X).take (n - m)) = List.replicate (m + min m (n - m)) X ++ List.replicate (n - (m + min m (n - m))) Z := by
  unfold splice
  rw [List.take_left' (by simp), List.take_replicate, List.length_replicate, ← List.append_assoc, List.replicate_append_replicate, List.drop_append]
  simp
  rw [show min (n - m) m = min m (n - m) by omega, show n - m - min m (n - m) = n - (m + min m (n - m)) by omega]
theorem splice_one (X Z : Value) (n : Nat) : splice (List.replicate n Z) 0 ([X].take n) = List.replicate (min 1 n) X ++ List.replicate (n - min 1 n) Z := by
  unfold splice
  cases n with
  | zero => rfl
  | succ n =>
    rw [show min 1 (n + 1) = 1 by omega]
    simp
set_option maxHeartbeats 2000000 in
set_option maxRecDepth 20000 in
theorem intsRepeat (x : Int) (A : Option Addr) (n : Nat) (hn : n ≤ 1000) (w : World) (hr : Rd w 1 A 1 [.int .i64 x]) :
    Calls Tryd.prog 59 #[.slice A 1 1, .int .i64 (n : Nat)] w fun e w' => ∃ v, e = .returned v ∧ w'.ownsRow w.heap.size 3 1 v (List.replicate n x).length (intsV (List.replicate n x)) ∧ Ext w w' := by
  have HN := Lib.hid hn
  have HR := Lib.hid hr
  have h0 : ¬ (n : Int) < 0 := by omega
  have hwn : (n : Int) % 18446744073709551616 = n := by omega
  have hg : ¬ (9223372036854775807 : Int) < (n : Int) := by omega
  clear hn hr
  go_enter Tryd.func59, Tryd.ntmps59
  go_upto_region 6 with (go_at_call 80; refine (mulOne n HN.out w).mono ?_; rintro e wh ⟨rfl, hwh⟩; obtain rfl : w = wh := hwh.symm)
  go_upto_region 7 with (at_make; refine wpList_mk1 Tryd.elemI rfl rfl (.tmp 29) (.tmp 29) rfl (n := n) (cap := n) rfl rfl (by omega) (by omega) (Nat.le_refl _) (by have := HN.out; omega) (by have := HN.out; unfold maxLen; omega) ?_; intro w1 hB0 hb0)
  have HX1 := Lib.hid (show Ext w w1 from hb0)
  have HB1 := Lib.hid hB0
  clear hB0 hb0
  go_wp2_with (refine wpList_cp (o := ⟨some 33, _, _, _, _, _⟩) (dp := some ⟨w.heap.size, 0, none⟩) (dLen := n) (dCap := n) (g := w.heap.size) (off := 0) (cur := List.replicate n (.int .i64 0)) (n := 1) (cs := [.int .i64 x]) Tryd.elemI rfl (.tmp 31) (.tmp 32) rfl rfl HB1.out (fun _ => rfl) (by simp) rfl (HR.out.keep HX1.out) (one_one rfl) HX1.out (Nat.le_refl _) ?_; intro w2 hB2 hx2)
  rw [splice_one] at hB2
  obtain ⟨m, hm⟩ : ∃ m, min 1 n = m := ⟨_, rfl⟩
  have HM := Lib.hid (show m ≤ n ∧ (m = 0 → n = 0) by omega)
  rw [hm] at hB2 ⊢
  have HB2 := Lib.hid hB2
  have HX2 := Lib.hid (show Ext w w2 from hx2)
  clear hB2 hx2 hm HB1 HX1 HR
  go_loopg [8] (n - m) (fun gg iv wr => ∃ i : Nat, i ≤ n ∧ (i = 0 → n = 0) ∧ gg = n - i ∧ iv = .int .i64 (i : Nat) ∧ Blk wr w.heap.size 3 (List.replicate i (.int .i64 x) ++ List.replicate (n - i) (.int .i64 0)) ∧ Ext w wr)
  case atStart => exact ⟨m, HM.out.1, HM.out.2, rfl, rfl, HB2.out, HX2.out⟩
  case round =>
    obtain ⟨i, hi, hi0, rfl, rfl, hb, hx⟩ := hrel
    clear HB2 HX2 HM
    by_cases hlt : i < n
    · have hlt' : (i : Int) < (n : Int) := by omega
      have HB := Lib.hid hb
      have HX := Lib.hid hx
      have HL := Lib.hid hlt
      have HI := Lib.hid hi0
      clear hb hx hi hi0
      go_upto_region 9 with fail
      obtain ⟨k, hk⟩ : ∃ k, min i (n - i) = k := ⟨_, rfl⟩
      have HK := Lib.hid hk
      clear hk
      have hin : (i : Int) ≤ (n : Int) := by omega
      have hni : ¬ n = i := by omega
      have HBD := Lib.hid (show Blk wr.drew w.heap.size 3 _ from HB.out.keep ((Below.refl _ _).drew))
      have hrd : ∀ w', Blk w' w.heap.size 3 (List.replicate i (.int .i64 x) ++ List.replicate (n - i) (.int .i64 0)) → Rd w' 1 (some ⟨w.heap.size, 0, none⟩) i (List.replicate i (.int .i64 x)) := fun w' h => by
        have := Blk.rd (n := i) (size := 1) h 0 (by simp)
        simpa using this
      have hone : ∀ u ∈ List.replicate i (Value.int .i64 x), u.oneCell' = true := fun u hu => by rw [(List.mem_replicate.1 hu).2]; rfl
      have hwk : IntKind.i64.wrap ((i : Int) + (k : Int)) = (i : Int) + (k : Int) := wrap_id (by omega) (by have := HN.out; have := HK.out; omega)
      go_region_law (refine step_cpC (g := w.heap.size) (off := i) (dp := some ⟨w.heap.size, i, none⟩) (dLen := n - i) (dCap := n - i) (A := some ⟨w.heap.size, 0, none⟩) (n := i) (c := n) (cur := List.replicate i (.int .i64 x) ++ List.replicate (n - i) (.int .i64 0)) (cs := List.replicate i (.int .i64 x)) Tryd.elemI rfl (.tmp 41) (.tmp 44) rfl (by simp [Act.eval, Act.put]) HBD.out (fun _ => rfl) (by first | (simp; done) | (simp; omega)) (by simp [Act.eval, Act.put]) (hrd _ HBD.out) hone ?_; intro w3 hB3 hc3; rw [splice_rep _ _ _ _ (by omega)] at hB3; rw [HK.out] at hB3 ⊢; have HB3 := Lib.hid hB3; have HC3 := Lib.hid hc3; clear hB3 hc3)
      have hx3 : Ext w w3 := (Chg.below (B := w.heap.size) HC3.out (HX.out.drew) (by have := HX.out.size; simpa using this) (by simp))
      have hkn := HK.out
      have hL := HL.out
      have hI := HI.out
      go_wp2
      go_roundg (n - (i + k))
      case measure => omega
      case rel => exact ⟨i + k, by omega, by omega, rfl, by go_num, HB3.out, hx3⟩
    · obtain rfl : i = n := by omega
      have hlt' : ¬ (i : Int) < (i : Int) := by omega
      have HB := Lib.hid hb
      have HX := Lib.hid hx
      clear hb hx
      go_wp2
      go_ret
      refine ⟨_, rfl, ?_, HX.out⟩
      have hB := HB.out
      rw [Nat.sub_self, List.replicate_zero, List.append_nil] at hB
      refine ⟨by simp [intsV], .inr ⟨w.heap.size, i, (List.replicate i (Value.int .i64 x)).toArray, by simp, Nat.le_refl _, hB, by simp, by have := HN.out; unfold maxLen; omega, by simp, by simp [intsV]⟩⟩
end Go.Proofs.YtdhmfgaiomfodaaDoor
namespace Go.Proofs.YtdhmfgaiomfodaaDoor
open Go Go.RowKit

theorem least_ex {p : Nat → Prop} (h : ∃ n, p n) : ∃ m, p m ∧ ∀ k, p k → m ≤ k := by
  obtain ⟨n, hn⟩ := h
  induction n using Nat.strongRecOn with
  | _ n ih =>
    by_cases hk : ∃ k, k < n ∧ p k
    · obtain ⟨k, hk, hp⟩ := hk
      exact ih k hk hp
    · exact ⟨n, hn, fun k hp => Nat.le_of_not_lt fun hlt => hk ⟨k, hlt, hp⟩⟩
noncomputable def leastN (p : Nat → Prop) : Nat := by
  classical
  exact if h : ∃ n, p n then Classical.choose (least_ex h) else 0
theorem leastN_spec {p : Nat → Prop} (h : ∃ n, p n) : p (leastN p) ∧ ∀ k, p k → leastN p ≤ k := by
  unfold leastN
  rw [dif_pos h]
  exact Classical.choose_spec (least_ex h)
/-- A scope that begins with its one label: what holds at each jump, with a number that grows less. -/
theorem wp_scope_pass {P : Program} {a : Act} {w : World} {Q : Exit → Act → World → Prop} {X : Code} (l : Nat) (J : Nat → Act → World → Prop) (hf : findLabel ((Code.label l).seq X) l = some (Code.skip.seq X))
    (m0 : Nat) (h0 : J m0 a w)
    (pass : ∀ n a w, J n a w → X.wp P (Exit.jump l (fun a' w' => ∃ m, m < n ∧ J m a' w') Q) a w) : (Code.scope ((Code.label l).seq X)).wp P Q a w := by
  refine wp_scope_jumps l (fun a w => ∃ n, J n a w) (fun a w => leastN fun n => J n a w) hf (wp_seq (wp_label (wp_mono (pass m0 a w h0) ?_))) fun a w hJ => wp_seq (wp_skip (wp_mono (pass _ a w (leastN_spec hJ).1) ?_))
  · intro e a' w' hq
    cases e with
    | goto l' => exact ⟨hq.1, hq.2.imp fun _ h => h.2⟩
    | normal => exact hq
    | exit id => exact hq
    | ret => exact hq
    | panic ch => exact hq
    | outgrown => exact hq
  · intro e a' w' hq
    cases e with
    | goto l' =>
      obtain ⟨h1, m, h2, h3⟩ := hq
      exact ⟨h1, ⟨m, h3⟩, Nat.lt_of_le_of_lt ((leastN_spec ⟨m, h3⟩).2 m h3) h2⟩
    | normal => exact hq
    | exit id => exact hq
    | ret => exact hq
    | panic ch => exact hq
    | outgrown => exact hq

theorem list_map (l : List Value) : l = (List.range l.length).map fun k => l.getD k undef := by
  refine List.ext_getElem (by simp) fun i h1 h2 => ?_
  simp [List.getD, h1]
theorem frame_lit (U : Nat → Value) : (List.range 89).map U = [U 0, U 1, U 2, U 3, U 4, U 5, U 6, U 7, U 8, U 9, U 10, U 11, U 12, U 13, U 14, U 15, U 16, U 17, U 18, U 19, U 20, U 21, U 22, U 23, U 24, U 25, U 26, U 27, U 28, U 29, U 30, U 31, U 32, U 33, U 34, U 35, U 36, U 37, U 38, U 39, U 40, U 41, U 42, U 43, U 44, U 45, U 46, U 47, U 48, U 49, U 50, U 51, U 52, U 53, U 54, U 55, U 56, U 57, U 58, U 59, U 60, U 61, U 62, U 63, U 64, U 65, U 66, U 67, U 68, U 69, U 70, U 71, U 72, U 73, U 74, U 75, U 76, U 77, U 78, U 79, U 80, U 81, U 82, U 83, U 84, U 85, U 86, U 87, U 88] := by kernel_rfl
theorem frame_of {t : Array Value} (h : t.size = 89) : ∃ U : Nat → Value, t = #[U 0, U 1, U 2, U 3, U 4, U 5, U 6, U 7, U 8, U 9, U 10, U 11, U 12, U 13, U 14, U 15, U 16, U 17, U 18, U 19, U 20, U 21, U 22, U 23, U 24, U 25, U 26, U 27, U 28, U 29, U 30, U 31, U 32, U 33, U 34, U 35, U 36, U 37, U 38, U 39, U 40, U 41, U 42, U 43, U 44, U 45, U 46, U 47, U 48, U 49, U 50, U 51, U 52, U 53, U 54, U 55, U 56, U 57, U 58, U 59, U 60, U 61, U 62, U 63, U 64, U 65, U 66, U 67, U 68, U 69, U 70, U 71, U 72, U 73, U 74, U 75, U 76, U 77, U 78, U 79, U 80, U 81, U 82, U 83, U 84, U 85, U 86, U 87, U 88] := by
  obtain ⟨l⟩ := t
  have e := list_map l
  rw [show l.length = 89 from h, frame_lit] at e
  exact ⟨fun k => l.getD k undef, congrArg Array.mk e⟩
/-- What a way that went on leaves. -/
def FolR (R : RS) (pos turn : Int) (w : World) (v : Value) (s' : Nat → Bool) (WT : List Way) (w' : World) : Prop :=
  ∃ v' cs' sv', RunM R w' pos v' cs' WT sv' turn ∧ seenB sv' turn = s' ∧ (∀ x ∈ sv', x ≤ turn) ∧ RN R w v w' v'
/-- While a way goes on. -/
structure FolJ (R : RS) (pos turn from_ : Int) (w0 : World) (v0 : Value) (s' : Nat → Bool) (WT : List Way) (gw nn : Nat) (n : Nat) (w : World) (pc : Nat) (caps : List Int) (s : Nat → Bool) (L : List Th) (cv v : Value) (cs : List Value) (W : List Way) (sv : List Int) : Prop where
  f : Fol R.c pos s pc caps s' L
  m : un R.c s ≤ n
  hs : seenB sv turn = s
  le : ∀ x ∈ sv, x ≤ turn
  cap : CapV R.gr w cv caps
  len : caps.length = 2 * R.G
  bd : W.length + un R.c s ≤ 1000
  run : RunM R w pos v cs W sv turn
  way : Blk w gw 113 [.int .i64 (pc : Nat), .int .i64 from_, cv]
  ne : v.ownBlock ≠ some gw
  all : W ++ (L.map fun e => (e.1, from_, e.2)) = WT
  rn : RN R w0 v0 w v
  lo : w0.heap.size ≤ gw
  up : R.gr < gw
  mx : un R.c s ≤ nn
theorem fol_inv {c : List Ins} {pos : Int} {s s' : Nat → Bool} {pc : Nat} {caps : List Int} {L : List Th} (h : Fol c pos s pc caps s' L) :
    (s pc = true ∧ L = [] ∧ s' = s) ∨ (s pc = false ∧ ∃ i, c[pc]? = some i ∧ ((i.op = 2 ∧ Fol c pos (ins s pc) i.x.toNat caps s' L) ∨
      (i.op = 3 ∧ ∃ s1 L1 L2, L = L1 ++ L2 ∧ Fol c pos (ins s pc) i.x.toNat caps s1 L1 ∧ Fol c pos s1 i.y.toNat caps s' L2) ∨
      (i.op = 4 ∧ Fol c pos (ins s pc) (pc + 1) (caps.set (i.n - 2).toNat pos) s' L) ∨ (i.op ≠ 2 ∧ i.op ≠ 3 ∧ i.op ≠ 4 ∧ s' = ins s pc ∧ L = [(pc, caps)]))) := by
  cases h with
  | seen h => exact .inl ⟨h, rfl, rfl⟩
  | jump h hi ho hf => exact .inr ⟨h, _, hi, .inl ⟨ho, hf⟩⟩
  | split h hi ho h1 h2 => exact .inr ⟨h, _, hi, .inr (.inl ⟨ho, _, _, _, rfl, h1, h2⟩)⟩
  | save h hi ho hf => exact .inr ⟨h, _, hi, .inr (.inr (.inl ⟨ho, hf⟩))⟩
  | stand h hi h2 h3 h4 => exact .inr ⟨h, _, hi, .inr (.inr (.inr ⟨h2, h3, h4, rfl, rfl⟩))⟩
theorem fol_lt {R : RS} {pos turn : Int} {s s' : Nat → Bool} {pc : Nat} {caps : List Int} {L : List Th} {sv : List Int} (h : Fol R.c pos s pc caps s' L) (hs : seenB sv turn = s) (hl : sv.length = R.c.length) : pc < R.c.length := by
  rcases fol_inv h with ⟨h1, _⟩ | ⟨_, i, hi, _⟩
  · rw [← hs] at h1
    rw [← hl]
    exact (List.getElem?_eq_some_iff.1 (seenB_true.1 h1)).1
  · exact (List.getElem?_eq_some_iff.1 hi).1

/-- An instruction was come to. -/
theorem RunM.note {R : RS} {w : World} {pos : Int} {v : Value} {cs : List Value} {W : List Way} {sv : List Int} {turn : Int} (h : RunM R w pos v cs W sv turn) (pc : Nat) :
    RunM R (w.setCell ⟨R.gs, pc, none⟩ (.int .i64 turn)) pos v cs W (sv.set pc turn) turn ∧ RN R w v (w.setCell ⟨R.gs, pc, none⟩ (.int .i64 turn)) v := by
  have hord := h.ord
  have hch : Chg (R.gr :: R.gs :: v.ownBlock.toList) w (w.setCell ⟨R.gs, pc, none⟩ (.int .i64 turn)) := (Chg.refl _ w).setCell (p := ⟨R.gs, pc, none⟩) (by simp) _
  have hch1 : Chg [R.gs] w (w.setCell ⟨R.gs, pc, none⟩ (.int .i64 turn)) := (Chg.refl _ w).setCell (p := ⟨R.gs, pc, none⟩) (by simp) _
  refine ⟨⟨h.blk.chg hch1 (by simp; omega), h.code.chg hch1 (fun _ b o x e hm => by have := h.low b o x e; simp at hm; omega), h.low, h.ord, ?_, by rw [List.length_set]; exact h.len, own_chg h.own hch1 (fun k hk hm => by have := (h.own.lt k hk).1; simp at hm; omega), h.ways.map fun cv l hc => hc.chg h.own h.ord hch⟩, ⟨hch, fun k hk => .inl hk⟩⟩
  have := h.seen.set_ pc (.int .i64 turn)
  unfold intsV at this ⊢
  rw [← List.map_set] at this
  exact this

/-- Rows of numbers lie apart from a way's block. -/
theorem CapV.far {b g : Nat} {w w' : World} {cv : Value} {l : List Int} {ys : List Value} (h : CapV b w cv l) (hB : Blk w g 113 ys) (hc : Chg [g] w w') : CapV b w' cv l := by
  refine own_chg h hc fun k hk hm => ?_
  obtain rfl : k = g := by simpa using hm
  rcases h.2 with ⟨rfl, _⟩ | ⟨g', cap, cur, rfl, _, hg, _⟩
  · cases hk
  · simp only [Value.ownBlock, Option.some.injEq] at hk
    subst hk
    unfold Blk at hB
    rw [hg] at hB
    cases hB
theorem RunM.far {R : RS} {g : Nat} {w w' : World} {pos : Int} {v : Value} {cs ys : List Value} {W : List Way} {sv : List Int} {turn : Int} (h : RunM R w pos v cs W sv turn) (hB : Blk w g 113 ys) (hg : R.gr < g) (hv : v.ownBlock ≠ some g) (hc : Chg [g] w w') : RunM R w' pos v cs W sv turn := by
  have hord := h.ord
  exact ⟨h.blk.chg hc (by simp; omega), h.code.chg hc (fun _ b o x e hm => by have := h.low b o x e; simp at hm; omega), h.low, h.ord, h.seen.chg hc (by simp; omega), h.len, own_chg h.own hc (fun k hk hm => by simp at hm; subst hm; exact hv hk), h.ways.map fun cv l hq => hq.far hB hc⟩
theorem RN.far {R : RS} {g : Nat} {w0 w w' : World} {v0 v : Value} (h : RN R w0 v0 w v) (hg : w0.heap.size ≤ g) (hc : Chg [g] w w') : RN R w0 v0 w' v := ⟨h.ch.more hc fun y hy => by simp at hy; subst hy; exact .inr hg, h.at_⟩
theorem own_blk1 {w : World} {base n : Nat} {e : TypeId} {v : Value} {xs : List Value} (h : w.ownsRow base e 1 v n xs) (hn : 0 < n) : ∃ g c, v = .slice (some ⟨g, 0, none⟩) n c ∧ n ≤ c ∧ c ≤ maxLen ∧ base ≤ g ∧ g < w.heap.size ∧ (∀ j, w.frozen? ⟨g, j, none⟩ = false) ∧ ∀ j u, xs[j]? = some u → w.cell? ⟨g, j, none⟩ = some u := by
  have h0 := h
  rcases h.2 with ⟨h1, h2⟩ | ⟨g, cap, cur, he, hb, hg, h1, h2, h3, h4⟩
  · omega
  · subst he
    refine ⟨g, cap, rfl, h1, h2, hb, (h0.lt g rfl).2, fun j => Lib.frozen_of_heap hg j, fun j u hu => ?_⟩
    have := h0.cells (g := g) rfl j u hu
    simpa [Addr.add_lit] using this

theorem elemWay : Elem Tryd.prog 101 113 (.agg #[.int .i64 0, .int .i64 0, .slice none 0 0]) 3 40 := ⟨Tryd.underlying101, by kernel_rfl, rfl, by omega⟩

set_option maxHeartbeats 3000000 in
set_option maxRecDepth 20000 in
theorem smFollow (R : RS) (hR : RightC R.c R.G) (pos turn : Int) (ht0 : 0 ≤ turn) (ht1 : turn ≤ 1000000) : ∀ (n : Nat) {s s' : Nat → Bool} {pc : Nat} {caps : List Int} {L : List Th}, Fol R.c pos s pc caps s' L → un R.c s ≤ n →
    ∀ (from_ : Int) (cv v : Value) (cs : List Value) (W : List Way) (sv : List Int) (w : World), seenB sv turn = s → (∀ x ∈ sv, x ≤ turn) → CapV R.gr w cv caps → caps.length = 2 * R.G → W.length + un R.c s ≤ 1000 → RunM R w pos v cs W sv turn →
    Calls Tryd.prog 58 #[.pointer (some ⟨R.gr, 0, none⟩), .agg #[.int .i64 (pc : Nat), .int .i64 from_, cv]] w fun e w' => e = .returned (.tuple #[]) ∧ FolR R pos turn w v s' (W ++ L.map fun e => (e.1, from_, e.2)) w' := by
  intro n
  induction n using Nat.strongRecOn with
  | _ n ih =>
    intro s s' pc caps L hF hn from_ cv v cs W sv w hs hle hcv hcl hB hM
    have IH := Lib.hid ih
    have HR := Lib.hid hR
    clear ih hR
    obtain ⟨gw, hgw⟩ : ∃ gw, w.heap.size = gw := ⟨_, rfl⟩
    obtain ⟨WT, hWT⟩ : ∃ WT, (W ++ L.map fun e => (e.1, from_, e.2)) = WT := ⟨_, rfl⟩
    have hx0 := Ext.new1 w (.cells #[.int .i64 (pc : Nat), .int .i64 from_, cv] 113)
    have HJ : Hid (FolJ R pos turn from_ w v s' WT gw n n (w.alloc (.cells #[.int .i64 (pc : Nat), .int .i64 from_, cv] 113)) pc caps s L cv v cs W sv) := Lib.hid
      ⟨hF, hn, hs, hle, own_ext hcv hx0, hcl, hB, hM.keep hx0, Blk.newA (w := w) hgw 113 [.int .i64 (pc : Nat), .int .i64 from_, cv], fun e => by have := (hM.own.lt gw e).2; omega, hWT, RN.ext hx0, Nat.le_of_eq hgw, by have := hM.blk.lt; omega, hn⟩
    rw [hWT]
    clear hF hn hs hle hcv hcl hB hM hx0 hWT
    have HGW := Lib.hid hgw
    clear hgw
    go_enter Tryd.func58, Tryd.ntmps58
    go_wp2
    rw [HGW.out]
    generalize w.alloc (.cells #[.int .i64 (pc : Nat), .int .i64 from_, cv] 113) = w1 at *
    generalize Value.agg #[.int .i64 (pc : Nat), .int .i64 from_, cv] = p0
    refine wp_scope_pass 0 (fun m a' w' => ∃ (pc : Nat) (caps : List Int) (s : Nat → Bool) (L : List Th) (cv v' : Value) (cs : List Value) (W : List Way) (sv : List Int), a'.tmps.size = 89 ∧ a'.tmps[0]? = some (.pointer (some ⟨R.gr, 0, none⟩)) ∧ a'.tmps[3]? = some (.pointer (some ⟨gw, 0, none⟩)) ∧ a'.defers = [] ∧ FolJ R pos turn from_ w v s' WT gw n m w' pc caps s L cv v' cs W sv) rfl n ⟨pc, caps, s, L, cv, v, cs, W, sv, rfl, rfl, rfl, rfl, HJ.out⟩ ?_
    clear HJ pc caps s L cv cs W sv
    rintro m ⟨tm, df⟩ w' ⟨pc, caps, s, L, cv, vk, cs, W, sv, hsz, h0, h3, hd, hj⟩
    obtain rfl : df = [] := hd
    obtain ⟨U, rfl⟩ := frame_of hsz
    obtain e0 : U 0 = .pointer (some ⟨R.gr, 0, none⟩) := Option.some.inj (show some (U 0) = _ from h0)
    obtain e3 : U 3 = .pointer (some ⟨gw, 0, none⟩) := Option.some.inj (show some (U 3) = _ from h3)
    rw [e0, e3]
    clear hsz h0 h3 e0 e3
    have HJ := Lib.hid hj
    clear hj
    dsimp only
    have hpc : pc < R.c.length := fol_lt HJ.out.f HJ.out.hs HJ.out.run.len
    obtain ⟨x, hx⟩ : ∃ x, sv[pc]? = some x := ⟨_, List.getElem?_eq_getElem (by rw [HJ.out.run.len]; exact hpc)⟩
    have HX := Lib.hid hx
    have HPC := Lib.hid hpc
    clear hx hpc
    have b3 : w'.cell? ⟨R.gr, 4, none⟩ = some (.slice (some ⟨R.gs, 0, none⟩) R.c.length R.c.length) := HJ.out.run.blk.cell 4
    have b5 : w'.cell? ⟨R.gr, 5, none⟩ = some (.int .i64 turn) := HJ.out.run.blk.cell 5
    have y0 : w'.cell? ⟨gw, 0, none⟩ = some (.int .i64 (pc : Nat)) := HJ.out.way.cell 0
    have z0 : w'.cell? ⟨R.gs, pc, none⟩ = some (.int .i64 x) := by rw [HJ.out.run.seen.cell]; unfold intsV; rw [List.getElem?_map, HX.out]; rfl
    have hlt : (pc : Int) < (R.c.length : Int) := by have := HPC.out; omega
    obtain ⟨N, hN⟩ : ∃ N, R.c.length = N := ⟨_, rfl⟩
    have HNL := Lib.hid hN
    rw [hN] at b3 hlt
    clear hN
    go_upto_region 1 with fail
    go_quiet (fail)
    have hxq := Lib.hid (show Ext w' (w'.drewN nq) from below_drewN (Ext.refl _) nq)
    generalize w'.drewN nq = wa at *
    clear b3 b5 y0 z0 hlt
    by_cases hxt : x = turn
    · have HXT := Lib.hid (show s pc = true from by rw [← HJ.out.hs]; exact seenB_true.2 (by rw [HX.out, hxt]))
      subst hxt
      go_wp2
      simp only [Exit.jump]
      refine bodyPost_ret (results_none rfl _ _ _) rfl ⟨rfl, ?_⟩
      rcases fol_inv HJ.out.f with ⟨_, hL, hs'⟩ | ⟨h1, _⟩
      · have hall := HJ.out.all
        rw [hL] at hall
        simp only [List.map_nil, List.append_nil] at hall
        exact ⟨vk, cs, sv, by rw [← hall]; exact HJ.out.run.keep hxq.out, by rw [hs']; exact HJ.out.hs, HJ.out.le, HJ.out.rn.then_ext hxq.out⟩
      · rw [HXT.out] at h1; cases h1
    have hne1 : (x == turn) = false := beq_eq_false_iff_ne.2 hxt
    have HXT := Lib.hid (show s pc = false from by
      cases hb : s pc
      · rfl
      · rw [← HJ.out.hs] at hb
        have := seenB_true.1 hb
        rw [HX.out] at this
        cases this
        exact absurd rfl hxt)
    have b3 : wa.cell? ⟨R.gr, 4, none⟩ = some (.slice (some ⟨R.gs, 0, none⟩) N N) := by rw [← HNL.out]; exact (HJ.out.run.blk.keep hxq.out).cell 4
    have b5 : wa.cell? ⟨R.gr, 5, none⟩ = some (.int .i64 turn) := (HJ.out.run.blk.keep hxq.out).cell 5
    have y0 : wa.cell? ⟨gw, 0, none⟩ = some (.int .i64 (pc : Nat)) := (HJ.out.way.keep hxq.out).cell 0
    have hS := HJ.out.run.seen.keep hxq.out
    have z0 : wa.cell? ⟨R.gs, pc, none⟩ = some (.int .i64 x) := by rw [hS.cell]; unfold intsV; rw [List.getElem?_map, HX.out]; rfl
    have f0 := hS.frozen pc
    have hlt : (pc : Int) < (N : Int) := by have := HPC.out; have := HNL.out; omega
    clear hS
    go_upto_region 2 with fail
    go_region
    obtain ⟨i, hi, hway⟩ : ∃ i, R.c[pc]? = some i ∧ ((i.op = 2 ∧ Fol R.c pos (ins s pc) i.x.toNat caps s' L) ∨
      (i.op = 3 ∧ ∃ s1 L1 L2, L = L1 ++ L2 ∧ Fol R.c pos (ins s pc) i.x.toNat caps s1 L1 ∧ Fol R.c pos s1 i.y.toNat caps s' L2) ∨
      (i.op = 4 ∧ Fol R.c pos (ins s pc) (pc + 1) (caps.set (i.n - 2).toNat pos) s' L) ∨ (i.op ≠ 2 ∧ i.op ≠ 3 ∧ i.op ≠ 4 ∧ s' = ins s pc ∧ L = [(pc, caps)])) := by
      rcases fol_inv HJ.out.f with ⟨h1, _⟩ | ⟨_, h⟩
      · rw [HXT.out] at h1; cases h1
      · exact h
    have HI := Lib.hid hi
    have HWY := Lib.hid hway
    clear hi hway b3 b5 y0 z0 f0 hlt hne1
    have hnote := (HJ.out.run.keep hxq.out).note pc
    have hdr : Ext (wa.setCell ⟨R.gs, pc, none⟩ (.int .i64 turn)) (wa.setCell ⟨R.gs, pc, none⟩ (.int .i64 turn)).drew := (Below.refl _ _).drew
    have HRUN := Lib.hid (hnote.1.keep hdr)
    have HRN := Lib.hid ((HJ.out.rn.then_ext hxq.out).trans (hnote.2.then_ext hdr))
    have HWAY := Lib.hid (((HJ.out.way.keep hxq.out).chg ((Chg.refl [R.gs] wa).setCell (p := ⟨R.gs, pc, none⟩) (by simp) (.int .i64 turn)) (by have := HJ.out.up; have := HJ.out.run.ord; simp; omega)).keep hdr)
    have HCAP := Lib.hid (CapV.chg (own_ext HJ.out.cap hxq.out) (own_ext HJ.out.run.own hxq.out) HJ.out.run.ord (hnote.2.then_ext hdr).ch)
    clear hnote hdr
    generalize (wa.setCell ⟨R.gs, pc, none⟩ (.int .i64 turn)).drew = wb at *
    obtain ⟨bA, oA, hA, hcell⟩ := code_cells HRUN.out.code HI.out
    have b0 : wb.cell? ⟨R.gr, 0, none⟩ = some (.slice (some ⟨bA, oA, none⟩) N R.cc) := by rw [← HNL.out, ← hA]; exact HRUN.out.blk.cell 0
    have y0 : wb.cell? ⟨gw, 0, none⟩ = some (.int .i64 (pc : Nat)) := HWAY.out.cell 0
    have c0 : wb.cell? ⟨bA, oA + pc * 8, none⟩ = some (.int .i64 i.op) := hcell 0 _ rfl
    have c1 : wb.cell? ⟨bA, oA + pc * 8 + 1, none⟩ = some (.int .i64 i.x) := hcell 1 _ rfl
    have c2 : wb.cell? ⟨bA, oA + pc * 8 + 2, none⟩ = some (.int .i64 i.y) := hcell 2 _ rfl
    have c3 : wb.cell? ⟨bA, oA + pc * 8 + 3, none⟩ = some (.int .i64 i.n) := hcell 3 _ rfl
    have c4 : wb.cell? ⟨bA, oA + pc * 8 + 4, none⟩ = some (.int .u64 (wd i.set 0 : Nat)) := hcell 4 _ rfl
    have c5 : wb.cell? ⟨bA, oA + pc * 8 + 5, none⟩ = some (.int .u64 (wd i.set 1 : Nat)) := hcell 5 _ rfl
    have c6 : wb.cell? ⟨bA, oA + pc * 8 + 6, none⟩ = some (.int .u64 (wd i.set 2 : Nat)) := hcell 6 _ rfl
    have c7 : wb.cell? ⟨bA, oA + pc * 8 + 7, none⟩ = some (.int .u64 (wd i.set 3 : Nat)) := hcell 7 _ rfl
    have hlt : (pc : Int) < (N : Int) := by have := HPC.out; have := HNL.out; omega
    have HCB := Lib.hid (show bA < wb.heap.size from World.block_lt_of_cell? wb _ c0)
    have hal := (Chg.refl [] wb).alloc (.cells #[.int .i64 0, .int .i64 0, .int .i64 0, .int .i64 0, .int .u64 0, .int .u64 0, .int .u64 0, .int .u64 0] 64)
    have k0 := hal.cell b0 (by simp)
    have k1 := hal.cell y0 (by simp)
    have d0 := hal.cell c0 (by simp)
    have d1 := hal.cell c1 (by simp)
    have d2 := hal.cell c2 (by simp)
    have d3 := hal.cell c3 (by simp)
    have d4 := hal.cell c4 (by simp)
    have d5 := hal.cell c5 (by simp)
    have d6 := hal.cell c6 (by simp)
    have d7 := hal.cell c7 (by simp)
    clear hal
    clear hcell hA
    go_upto_region 3 with fail
    go_region
    clear k0 k1 d0 d1 d2 d3 d4 d5 d6 d7 c0 c1 c2 c3 c4 c5 c6 c7 b0 y0 hlt HCB
    obtain ⟨gx, hgx⟩ : ∃ gx, wb.heap.size = gx := ⟨_, rfl⟩
    have hxc : Ext wb (wb.alloc (.cells (insV i).toArray 64)).drew := (Ext.new1 _ _).drew
    have HXR := Lib.hid (HRUN.out.keep hxc)
    have HXN := Lib.hid (HRN.out.then_ext hxc)
    have HXW := Lib.hid (HWAY.out.keep hxc)
    have HXC := Lib.hid (show CapV R.gr (wb.alloc (.cells (insV i).toArray 64)).drew cv caps from own_ext HCAP.out hxc)
    have HXB := Lib.hid (show Blk (wb.alloc (.cells (insV i).toArray 64)).drew gx 64 (insV i) from (Blk.newA (w := wb) hgx 64 (insV i)).keep ((Below.refl _ _).drew))
    have HGW2 := Lib.hid (show gw < gx by have := Blk.lt HWAY.out; omega)
    have HGV := Lib.hid (show ∀ k, vk.ownBlock = some k → k < gx from fun k hk => by have := (HRUN.out.own.lt k hk).2; omega)
    unfold insV at hxc HXR HXN HXW HXC HXB
    rw [hgx]
    clear hxc HRUN HRN HWAY HCAP hgx
    generalize (wb.alloc (.cells #[.int .i64 i.op, .int .i64 i.x, .int .i64 i.y, .int .i64 i.n, .int .u64 (wd i.set 0 : Nat), .int .u64 (wd i.set 1 : Nat), .int .u64 (wd i.set 2 : Nat), .int .u64 (wd i.set 3 : Nat)] 64)).drew = wc at *
    have HUN := Lib.hid (un_ins HPC.out HXT.out)
    have HSB := Lib.hid (show seenB (sv.set pc turn) turn = ins s pc from by rw [seenB_set (by rw [HJ.out.run.len]; exact HPC.out), HJ.out.hs])
    have HSL := Lib.hid (set_le HJ.out.le pc)
    obtain ⟨AC, cC, hcv, hc1, hc2, hrd⟩ := own_ints_rd HXC.out
    have HRD := Lib.hid hrd
    subst hcv
    clear hc1 hc2 hrd
    rcases HWY.out with ⟨ho, hf⟩ | ⟨ho, s1, L1, L2, hL, hf1, hf2⟩ | ⟨ho, hf⟩ | ⟨h2, h3, h4, hs', hL⟩
    · have HOK := Lib.hid (HR.out.op pc i HI.out)
      obtain ⟨X, hX⟩ : ∃ X : Nat, i.x = (X : Nat) := ⟨i.x.toNat, by have := HOK.out.2.2.1; omega⟩
      have e0 : wc.cell? ⟨gx, 0, none⟩ = some (.int .i64 2) := by rw [← ho]; exact HXB.out.cell 0
      have e1 : wc.cell? ⟨gx, 1, none⟩ = some (.int .i64 (X : Nat)) := by rw [← hX]; exact HXB.out.cell 1
      have y0 : wc.cell? ⟨gw, 0, none⟩ = some (.int .i64 (pc : Nat)) := HXW.out.cell 0
      have fy := HXW.out.frozen 0
      have HF := Lib.hid hf
      have HX2 := Lib.hid hX
      clear hf hX ho
      go_wp2
      go_step3
      have hc : Chg [gw] wc (wc.setCell ⟨gw, 0, none⟩ (.int .i64 (X : Nat))) := (Chg.refl _ _).setCell (p := ⟨gw, 0, none⟩) (by simp) _
      refine ⟨rfl, un R.c (ins s pc), Nat.lt_of_lt_of_le HUN.out HJ.out.m, X, caps, ins s pc, L, .slice AC caps.length cC, vk, cs, W, sv.set pc turn, rfl, rfl, rfl, rfl, ?_⟩
      have hf := HF.out
      rw [HX2.out, Int.toNat_natCast] at hf
      exact ⟨hf, Nat.le_refl _, HSB.out, HSL.out, HXC.out.far HXW.out hc, HJ.out.len, by have := HJ.out.bd; have := HUN.out; omega, HXR.out.far HXW.out HJ.out.up HJ.out.ne hc, HXW.out.set_ 0 _, HJ.out.ne, HJ.out.all, HXN.out.far HJ.out.lo hc, HJ.out.lo, HJ.out.up, by have := HUN.out; have := HJ.out.mx; omega⟩
    · have HOK := Lib.hid (HR.out.op pc i HI.out)
      obtain ⟨X, hX⟩ : ∃ X : Nat, i.x = (X : Nat) := ⟨i.x.toNat, by have := HOK.out.2.2.1; omega⟩
      obtain ⟨Y, hY⟩ : ∃ Y : Nat, i.y = (Y : Nat) := ⟨i.y.toNat, by have := HOK.out.2.2.2.1; omega⟩
      rw [hX, Int.toNat_natCast] at hf1
      rw [hY, Int.toNat_natCast] at hf2
      have e0 : wc.cell? ⟨gx, 0, none⟩ = some (.int .i64 3) := by rw [← ho]; exact HXB.out.cell 0
      have e1 : wc.cell? ⟨gx, 1, none⟩ = some (.int .i64 (X : Nat)) := by rw [← hX]; exact HXB.out.cell 1
      have y1 : wc.cell? ⟨gw, 1, none⟩ = some (.int .i64 from_) := HXW.out.cell 1
      have y2 : wc.cell? ⟨gw, 2, none⟩ = some (.slice AC caps.length cC) := HXW.out.cell 2
      have HF1 := Lib.hid hf1
      have HF2 := Lib.hid hf2
      have HLL := Lib.hid hL
      have HY2 := Lib.hid hY
      clear hf1 hf2 hX hY hL ho
      go_upto_region 9 with (go_at_call 58; refine (IH.out (un R.c (ins s pc)) (by have := HUN.out; have := HJ.out.mx; omega) HF1.out (Nat.le_refl _) from_ (.slice AC caps.length cC) vk cs W (sv.set pc turn) wc HSB.out HSL.out HXC.out HJ.out.len (by have := HJ.out.bd; have := HUN.out; omega) HXR.out).mono ?_; rintro e wd ⟨rfl, hres⟩)
      obtain ⟨v2, cs2, sv2, hM2, hs2, hl2, hN2⟩ := hres
      have HM2 := Lib.hid hM2
      have HS2 := Lib.hid hs2
      have HL2 := Lib.hid hl2
      have HN2 := Lib.hid hN2
      have hgwn : gw ∉ R.gr :: R.gs :: vk.ownBlock.toList := by
        have h1 := HJ.out.up
        have h2 := HJ.out.run.ord
        have h3 := HJ.out.ne
        simp only [List.mem_cons, not_or]
        exact ⟨by omega, by omega, fun h => h3 (by simpa using h)⟩
      have hgxn : gx ∉ R.gr :: R.gs :: vk.ownBlock.toList := by
        have h1 := HJ.out.up
        have h2 := HJ.out.run.ord
        have h3 := HGV.out
        have h4 := HGW2.out
        simp only [List.mem_cons, not_or]
        exact ⟨by omega, by omega, fun h => by have := h3 gx (by simpa using h); omega⟩
      have HW2 := Lib.hid (HXW.out.chg HN2.out.ch hgwn)
      have hB2 := HXB.out.chg HN2.out.ch hgxn
      have HC2 := Lib.hid (HXR.out.cap HXC.out HN2.out)
      have HNE := Lib.hid (show v2.ownBlock ≠ some gw from fun e => by
        rcases HN2.out.at_ gw e with h | h
        · exact HJ.out.ne h
        · have := Blk.lt HXW.out; omega)
      have k2 : wd.cell? ⟨gx, 2, none⟩ = some (.int .i64 (Y : Nat)) := by rw [← HY2.out]; exact hB2.cell 2
      have k0 : wd.cell? ⟨gw, 0, none⟩ = some (.int .i64 (pc : Nat)) := HW2.out.cell 0
      have fk := HW2.out.frozen 0
      clear hM2 hs2 hl2 hN2 hgwn hgxn hB2 e0 e1 y1 y2
      go_wp2
      go_step3
      have hc : Chg [gw] wd (wd.setCell ⟨gw, 0, none⟩ (.int .i64 (Y : Nat))) := (Chg.refl _ _).setCell (p := ⟨gw, 0, none⟩) (by simp) _
      have hu : un R.c s1 ≤ un R.c (ins s pc) := un_mono (fol_mono HF1.out)
      have hcnt := fol_count HF1.out
      refine ⟨rfl, un R.c s1, by have := HUN.out; have := HJ.out.m; omega, Y, caps, s1, L2, .slice AC caps.length cC, v2, cs2, W ++ L1.map fun e => (e.1, from_, e.2), sv2, rfl, rfl, rfl, rfl, ?_⟩
      exact ⟨HF2.out, Nat.le_refl _, HS2.out, HL2.out, HC2.out.far HW2.out hc, HJ.out.len, by have := HJ.out.bd; have := HUN.out; rw [List.length_append, List.length_map]; omega, HM2.out.far HW2.out HJ.out.up HNE.out hc, HW2.out.set_ 0 _, HNE.out, by have := HJ.out.all; rw [HLL.out, List.map_append] at this; rw [List.append_assoc]; exact this, (HXN.out.trans HN2.out).far HJ.out.lo hc, HJ.out.lo, HJ.out.up, by have := HUN.out; have := HJ.out.mx; omega⟩
    · have HOK := Lib.hid (HR.out.op pc i HI.out)
      have hnb := HOK.out.2.2.2.2.2.2 ho
      have hG := HJ.out.len
      obtain ⟨q, hq⟩ : ∃ q : Nat, i.n = (q : Int) + 2 := ⟨(i.n - 2).toNat, by omega⟩
      have hql : q < caps.length := by omega
      have hcl : caps.length ≤ 1000000 := by have := HR.out.few; omega
      obtain ⟨Z, hZ⟩ : ∃ Z : Int, i.n = Z := ⟨_, rfl⟩
      have hZw : IntKind.i64.wrap (Z - 2) = (q : Int) := by rw [← hZ, hq, show (q : Int) + 2 - 2 = q by omega]; exact wrap_id (by omega) (by omega)
      have e0 : wc.cell? ⟨gx, 0, none⟩ = some (.int .i64 4) := by rw [← ho]; exact HXB.out.cell 0
      have y2 : wc.cell? ⟨gw, 2, none⟩ = some (.slice AC caps.length cC) := HXW.out.cell 2
      have HF := Lib.hid (show Fol R.c pos (ins s pc) (pc + 1) (caps.set q pos) s' L from by rw [hq, show (q : Int) + 2 - 2 = q by omega, Int.toNat_natCast] at hf; exact hf)
      have HQ := Lib.hid hql
      have HCL := Lib.hid hcl
      have HZ := Lib.hid hZ
      have HZW := Lib.hid hZw
      clear hnb hG hq hql hcl hZ hZw hf ho
      go_upto_region 12 with (go_at_call 60; refine (intsClone caps AC caps.length cC _ HRD.out HCL.out).mono ?_; rintro e wd ⟨v2, rfl, hown2, hx2⟩; obtain ⟨g2, c2, rfl, hc2, hm2, hg2, hgl2, hfz2, hcl2⟩ := own_blk1 hown2 (by have := HQ.out; omega); have j2 := (HXW.out.keep hx2).cell 2; have jf := (HXW.out.keep hx2).frozen 2)
      have hchE : Chg [gw] wc (wd.setCell ⟨gw, 2, none⟩ (.slice (some ⟨g2, 0, none⟩) caps.length c2)) := (Chg.of_ext hx2).setCell (p := ⟨gw, 2, none⟩) (by simp) _
      have hch2 : Chg [gw] wd (wd.setCell ⟨gw, 2, none⟩ (.slice (some ⟨g2, 0, none⟩) caps.length c2)) := (Chg.refl _ _).setCell (p := ⟨gw, 2, none⟩) (by simp) _
      have hwlt := Blk.lt HXW.out
      have hxlt := Blk.lt HXB.out
      have hordx := HXR.out.ord
      have HNG := Lib.hid (show gw ≠ g2 by omega)
      have HWE := Lib.hid ((HXW.out.keep hx2).set_ 2 (.slice (some ⟨g2, 0, none⟩) caps.length c2))
      have HOE := Lib.hid (own_chg hown2 hch2 (fun k hk hm => by simp at hm; subst hm; exact HNG.out (Option.some.inj hk).symm))
      have HXE := Lib.hid ((HXB.out.keep hx2).chg hch2 (by have := HGW2.out; simp; omega))
      have HRE := Lib.hid ((HXR.out.blk.keep hx2).chg hch2 (by have := HJ.out.up; simp; omega))
      have HCE := Lib.hid hchE
      have HG2 := Lib.hid (show wc.heap.size ≤ g2 from hg2)
      have HC2 := Lib.hid (And.intro hc2 hm2)
      clear hchE hch2 hown2 hx2 hc2 hm2 hgl2 hfz2 hcl2 j2 jf e0 y2 hwlt hxlt hordx hg2
      generalize wd.setCell ⟨gw, 2, none⟩ (.slice (some ⟨g2, 0, none⟩) caps.length c2) = we at *
      obtain ⟨g3, c3, hv3, _, _, _, _, hfz2, hcl2⟩ := own_blk1 HOE.out (by have := HQ.out; omega)
      cases hv3
      have y2 : we.cell? ⟨gw, 2, none⟩ = some (.slice (some ⟨g2, 0, none⟩) caps.length c2) := HWE.out.cell 2
      have e3 : we.cell? ⟨gx, 3, none⟩ = some (.int .i64 Z) := by rw [← HZ.out]; exact HXE.out.cell 3
      have p2 : we.cell? ⟨R.gr, 2, none⟩ = some (.int .i64 pos) := HRE.out.cell 2
      obtain ⟨x0, hx0⟩ : ∃ x0, caps[q]? = some x0 := ⟨_, List.getElem?_eq_getElem HQ.out⟩
      have z0 : we.cell? ⟨g2, q, none⟩ = some (.int .i64 x0) := hcl2 q _ (by unfold intsV; rw [List.getElem?_map, hx0]; rfl)
      have fz := hfz2 q
      have hZw := HZW.out
      have hlt : (q : Int) < (caps.length : Int) := by have := HQ.out; omega
      clear hcl2 hfz2 hx0
      go_region
      have hdr : Ext (we.setCell ⟨g2, q, none⟩ (.int .i64 pos)) (we.setCell ⟨g2, q, none⟩ (.int .i64 pos)).drew := (Below.refl _ _).drew
      have hch2 : Chg [g2] we (we.setCell ⟨g2, q, none⟩ (.int .i64 pos)) := (Chg.refl _ _).setCell (p := ⟨g2, q, none⟩) (by simp) _
      have HWF := Lib.hid ((HWE.out.chg hch2 (by have := HNG.out; simp; omega)).keep hdr)
      have HCF := Lib.hid (show CapV R.gr (we.setCell ⟨g2, q, none⟩ (.int .i64 pos)).drew (.slice (some ⟨g2, 0, none⟩) caps.length c2) (caps.set q pos) from by
        have h := own_base (own_set8 (i := q) HOE.out (.int .i64 pos)) (b' := R.gr + 1) (by have := Blk.lt HXR.out.blk; omega)
        have e : (intsV caps).set q (.int .i64 pos) = intsV (caps.set q pos) := by unfold intsV; rw [List.map_set]
        rw [e] at h
        show World.ownsRow _ _ _ _ _ (caps.set q pos).length _
        rw [List.length_set]
        exact own_ext h hdr)
      have HCH := Lib.hid (show Chg [gw] wc (we.setCell ⟨g2, q, none⟩ (.int .i64 pos)).drew from (HCE.out.setNew (p := ⟨g2, q, none⟩) HG2.out _).drew)
      clear hdr hch2 y2 e3 p2 z0 fz hZw hlt HWE HOE HXE HRE HCE
      generalize (we.setCell ⟨g2, q, none⟩ (.int .i64 pos)).drew = wf at *
      have y0 : wf.cell? ⟨gw, 0, none⟩ = some (.int .i64 (pc : Nat)) := HWF.out.cell 0
      have fy := HWF.out.frozen 0
      have hpl : pc < 400 := by have := HPC.out; have := HR.out.most; omega
      have hpw : IntKind.i64.wrap ((pc : Int) + 1) = ((pc + 1 : Nat) : Int) := by rw [wrap_id (by omega) (by omega)]; omega
      clear hpl
      go_wp2
      go_step3
      have hc : Chg [gw] wf (wf.setCell ⟨gw, 0, none⟩ (.int .i64 ((pc + 1 : Nat) : Int))) := (Chg.refl _ _).setCell (p := ⟨gw, 0, none⟩) (by simp) _
      have hc2 := HCH.out.trans hc
      refine ⟨rfl, un R.c (ins s pc), Nat.lt_of_lt_of_le HUN.out HJ.out.m, pc + 1, caps.set q pos, ins s pc, L, .slice (some ⟨g2, 0, none⟩) caps.length c2, vk, cs, W, sv.set pc turn, rfl, rfl, rfl, rfl, ?_⟩
      exact ⟨HF.out, Nat.le_refl _, HSB.out, HSL.out, HCF.out.far HWF.out hc, by rw [List.length_set]; exact HJ.out.len, by have := HJ.out.bd; have := HUN.out; omega, HXR.out.far HXW.out HJ.out.up HJ.out.ne hc2, HWF.out.set_ 0 _, HJ.out.ne, HJ.out.all, HXN.out.far HJ.out.lo hc2, HJ.out.lo, HJ.out.up, by have := HUN.out; have := HJ.out.mx; omega⟩
    · have n2 : (i.op == 2) = false := beq_eq_false_iff_ne.2 h2
      have n3 : (i.op == 3) = false := beq_eq_false_iff_ne.2 h3
      have n4 : (i.op == 4) = false := beq_eq_false_iff_ne.2 h4
      have e0 : wc.cell? ⟨gx, 0, none⟩ = some (.int .i64 i.op) := HXB.out.cell 0
      have HS9 := Lib.hid hs'
      have HL9 := Lib.hid hL
      clear h2 h3 h4 hs' hL
      obtain ⟨A', c', hv', hc1, hc2, _⟩ := HXR.out.sh
      subst hv'
      clear hc1 hc2
      go_upto_region 14 with fail
      have hO := HXR.out.own
      have hb3 := HXR.out.blk
      have hI3 := HXW.out
      have hgwv := HJ.out.ne
      have hgv : ∀ y ∈ (Value.slice A' W.length c').ownBlock.toList, y < wc.heap.size := fun y hy => (hO.lt y (by simpa using hy)).2
      have hgw3 := Blk.lt HXW.out
      have hup := HJ.out.up
      have hy1 : wc.cell? ⟨R.gr, 3, none⟩ = some (.slice A' W.length c') := hb3.cell 3
      have hxbX : gw ∉ (Value.slice A' W.length c').ownBlock.toList ++ [R.gr] := by
        rw [List.mem_append]
        rintro (hm | hm)
        · exact hgwv (by simpa using hm)
        · simp at hm; omega
      have hapm : R.gr ∉ (Value.slice A' W.length c').ownBlock.toList := fun hm => by have := (hO.lt R.gr (by simpa using hm)).1; omega
      have hcsl := WaysV.len HXR.out.ways
      have HWL := Lib.hid (show W.length ≤ 1000 by have := HJ.out.bd; omega)
      have hone : ∀ u ∈ [Value.int .i64 (pc : Nat), .int .i64 from_, .slice AC caps.length cC], u.oneCell' = true := by intro u hu; simp at hu; rcases hu with rfl | rfl | rfl <;> rfl
      clear e0 n2 n3 n4 hup hcsl
      refine wp_region_dagQ (X := fun j => if j = 7 then (Value.slice A' W.length c').ownBlock.toList else if j = 10 then [R.gr] else []) (XX := ((Value.slice A' W.length c').ownBlock.toList ++ [R.gr])) (late := fun j => if j = 4 then [7, 10] else if j = 7 then [10] else if j = 10 then [] else []) (Pre := fun i w => (i = 4 → w.cell? ⟨R.gr, 3, none⟩ = some (.slice A' W.length c')) ∧ (i = 7 → w.ownsRow (R.gr + 1) 113 3 (.slice A' W.length c') W.length cs) ∧ (i = 10 → Blk w R.gr 103 [.slice R.A R.c.length R.cc, .int .i64 (R.G : Nat), .int .i64 pos, .slice A' W.length c', .slice (some ⟨R.gs, 0, none⟩) R.c.length R.c.length, .int .i64 turn]) ∧ True) (w0 := wc) (Φ := fun i v w => match i with | 0 => (v = .pointer (some ⟨R.gr, 0, none⟩)) | 1 => (v = .pointer (some ⟨R.gr, 0, none⟩)) | 2 => (v = .pointer (some ⟨R.gr, 0, none⟩)) | 3 => (v = .pointer (some ⟨R.gr, 3, none⟩)) | 4 => (v = .slice A' W.length c') | 5 => (v = .agg #[.int .i64 (pc : Nat), .int .i64 from_, .slice AC caps.length cC]) | 6 => (∃ vb : Nat, v = .slice (some ⟨vb, 0, none⟩) 1 1 ∧ Blk w vb 113 [.int .i64 (pc : Nat), .int .i64 from_, .slice AC caps.length cC] ∧ wc.heap.size ≤ vb) | 7 => (∃ A9 c9, v = .slice A9 (W.length + 1) c9 ∧ w.ownsRow (R.gr + 1) 113 3 v (W.length + 1) (cs ++ [.int .i64 (pc : Nat), .int .i64 from_, .slice AC caps.length cC]) ∧ v.ownBlock ≠ some R.gr ∧ (∀ j, v.ownBlock = some j → (Value.slice A' W.length c').ownBlock = some j ∨ wc.heap.size ≤ j)) | 8 => (v = .pointer (some ⟨R.gr, 0, none⟩)) | 9 => (v = .pointer (some ⟨R.gr, 3, none⟩)) | 10 => (∃ u, Blk w R.gr 103 [.slice R.A R.c.length R.cc, .int .i64 (R.G : Nat), .int .i64 pos, u, .slice (some ⟨R.gs, 0, none⟩) R.c.length R.c.length, .int .i64 turn] ∧ w.ownsRow (R.gr + 1) 113 3 u (W.length + 1) (cs ++ [.int .i64 (pc : Nat), .int .i64 from_, .slice AC caps.length cC]) ∧ (∀ j, u.ownBlock = some j → (Value.slice A' W.length c').ownBlock = some j ∨ wc.heap.size ≤ j)) | _ => True) (show Tryd.prog.follows .mixedOrders = true from Checked.mixed Tryd.checked) 89 rfl (by decide +kernel) ?_ ?_ ?_ ?_ ?_ ⟨?_, ?_, ?_, ?_, ?_, ?_, ?_, ?_, ?_, ?_, ?_, trivial⟩ ?_
      · intro j x hx
        by_cases hj7 : j = 7
        · subst hj7; have hx' : x ∈ (Value.slice A' W.length c').ownBlock.toList := hx; first | exact hx' | (rw [List.mem_append]; first | exact .inl hx' | exact .inr hx')
        by_cases hj10 : j = 10
        · subst hj10; have hx' : x ∈ [R.gr] := hx; first | exact hx' | (rw [List.mem_append]; first | exact .inl hx' | exact .inr hx')
        simp [hj7, hj10] at hx
      · intro j
        by_cases hj4 : j = 4
        · subst hj4; decide +kernel
        by_cases hj7 : j = 7
        · subst hj7; decide +kernel
        by_cases hj10 : j = 10
        · subst hj10; decide +kernel
        simp [hj4, hj7, hj10, lateOk]
      · intro i
        exact ⟨fun _ => hy1, fun _ => own_ext hO ((Below.refl _ _).drew), fun _ => hb3.keep ((Below.refl _ _).drew), trivial⟩
      · intro i j w w' hij hnl h hc
        refine ⟨?_, ?_, ?_, trivial⟩
        · intro hi
          subst hi
          have hp := h.1 rfl
          have hc' : Chg [] w w' := hc.mono (fun x hx => by
            by_cases hj7 : j = 7
            · subst hj7; exact absurd (by decide) hnl
            by_cases hj10 : j = 10
            · subst hj10; exact absurd (by decide) hnl
            simp [hj7, hj10] at hx)
          exact hc'.cell hp (by simp)
        · intro hi
          subst hi
          have hp := h.2.1 rfl
          have hc' : Chg [] w w' := hc.mono (fun x hx => by
            by_cases hj7 : j = 7
            · exact absurd hj7 (by omega)
            by_cases hj10 : j = 10
            · subst hj10; exact absurd (by decide) hnl
            simp [hj7, hj10] at hx)
          exact own_chg hp hc' (by simp)
        · intro hi
          subst hi
          have hp := h.2.2.1 rfl
          have hc' : Chg ((Value.slice A' W.length c').ownBlock.toList) w w' := hc.mono (fun x hx => by
            by_cases hj7 : j = 7
            · subst hj7; have hx' : x ∈ (Value.slice A' W.length c').ownBlock.toList := hx; first | exact hx' | (rw [List.mem_append]; first | exact .inl hx' | exact .inr hx')
            by_cases hj10 : j = 10
            · exact absurd hj10 (by omega)
            simp [hj7, hj10] at hx)
          exact hp.chg hc' hapm
      · intro i j v w w' hij hla h hc
        by_cases hj7 : j = 7
        · subst hj7
          have hc' : Chg (Value.slice A' W.length c').ownBlock.toList w w' := hc
          match i, hij, hla, h with
          | 0, _, _, h => exact h
          | 1, _, _, h => exact h
          | 2, _, _, h => exact h
          | 3, _, _, h => exact h
          | 4, _, _, h => exact h
          | 5, _, _, h => exact h
          | 6, _, _, h => exact (by obtain ⟨vb, g1, g2, g3⟩ := h; exact ⟨vb, g1, g2.chg hc' (fun hm => by have := hgv vb hm; omega), g3⟩)
          | 7, hij, _, _ => exact absurd rfl hij
          | 8, _, _, h => exact h
          | 9, _, _, h => exact h
          | 10, _, hla, _ => exact absurd (by decide) hla
          | _ + 11, _, _, _ => trivial
        by_cases hj10 : j = 10
        · subst hj10
          have hc' : Chg [R.gr] w w' := hc
          match i, hij, hla, h with
          | 0, _, _, h => exact h
          | 1, _, _, h => exact h
          | 2, _, _, h => exact h
          | 3, _, _, h => exact h
          | 4, _, _, h => exact h
          | 5, _, _, h => exact h
          | 6, _, _, h => exact (by obtain ⟨vb, g1, g2, g3⟩ := h; exact ⟨vb, g1, g2.chg hc' (fun hm => by simp at hm; have := Blk.lt hb3; omega), g3⟩)
          | 7, _, _, h => exact (by obtain ⟨A9, c9, g0, g1, g2⟩ := h; exact ⟨A9, c9, g0, own_chg g1 hc' (fun j hj hm => by simp at hm; subst hm; exact g2.1 hj), g2⟩)
          | 8, _, _, h => exact h
          | 9, _, _, h => exact h
          | 10, hij, _, _ => exact absurd rfl hij
          | _ + 11, _, _, _ => trivial
        have hc0 : Chg [] w w' := by simpa [hj7, hj10] using hc
        have hE : Ext w w' := hc0.ext (by simp)
        match i, h with
        | 0, h => exact h
        | 1, h => exact h
        | 2, h => exact h
        | 3, h => exact h
        | 4, h => exact h
        | 5, h => exact h
        | 6, h => exact (by obtain ⟨vb, g1, g2, g3⟩ := h; exact ⟨vb, g1, g2.keep hE, g3⟩)
        | 7, h => exact (by obtain ⟨A9, c9, g0, g1, g2⟩ := h; exact ⟨A9, c9, g0, own_ext g1 hE, g2⟩)
        | 8, h => exact h
        | 9, h => exact h
        | 10, h => exact (by obtain ⟨u, g1, g2, g3⟩ := h; exact ⟨u, g1.keep hE, own_ext g2 hE, g3⟩)
        | _ + 11, _ => trivial
      ·
        intro ac wx hE hP hsz hdf h
        have e0 : ac.tmps[0]? = some (.pointer (some ⟨R.gr, 0, none⟩)) := by obtain ⟨v, h1, h2⟩ := h 0 (by decide +kernel); exact h1.trans (h2.symm.trans rfl)
        clear h hsz hdf
        go_wp2
        exact ⟨_, rfl, rfl, Chg.refl _ _⟩
      ·
        intro ac wx hE hP hsz hdf h
        have e0 : ac.tmps[0]? = some (.pointer (some ⟨R.gr, 0, none⟩)) := by obtain ⟨v, h1, h2⟩ := h 0 (by decide +kernel); exact h1.trans (h2.symm.trans rfl)
        clear h hsz hdf
        go_wp2
        exact ⟨_, rfl, rfl, Chg.refl _ _⟩
      ·
        intro ac wx hE hP hsz hdf h
        have e80 : ac.tmps[80]? = some (.pointer (some ⟨R.gr, 0, none⟩)) := by obtain ⟨v, h1, h2⟩ := h 80 (by decide +kernel); rw [h1]; exact congrArg some h2
        clear h hsz hdf
        go_wp2
        exact ⟨_, rfl, rfl, Chg.refl _ _⟩
      ·
        intro ac wx hE hP hsz hdf h
        have e81 : ac.tmps[81]? = some (.pointer (some ⟨R.gr, 0, none⟩)) := by obtain ⟨v, h1, h2⟩ := h 81 (by decide +kernel); rw [h1]; exact congrArg some h2
        clear h hsz hdf
        go_wp2
        exact ⟨_, rfl, rfl, Chg.refl _ _⟩
      ·
        intro ac wx hE hP hsz hdf h
        have e82 : ac.tmps[82]? = some (.pointer (some ⟨R.gr, 3, none⟩)) := by obtain ⟨v, h1, h2⟩ := h 82 (by decide +kernel); rw [h1]; exact congrArg some h2
        clear h hsz hdf
        have hy4 := hP.1 rfl
        go_wp2
        exact ⟨_, rfl, rfl, Chg.refl _ _⟩
      ·
        intro ac wx hE hP hsz hdf h
        have e3 : ac.tmps[3]? = some (.pointer (some ⟨gw, 0, none⟩)) := by obtain ⟨v, h1, h2⟩ := h 3 (by decide +kernel); exact h1.trans (h2.symm.trans rfl)
        clear h hsz hdf
        have hbI := hI3.chg hE hxbX; have y0 := hbI.cell 0; have y1 := hbI.cell 1; have y2 := hbI.cell 2
        go_wp2
        exact ⟨_, rfl, rfl, Chg.refl _ _⟩
      ·
        intro ac wx hE hP hsz hdf h
        have e84 : ac.tmps[84]? = some (.agg #[.int .i64 (pc : Nat), .int .i64 from_, .slice AC caps.length cC]) := by obtain ⟨v, h1, h2⟩ := h 84 (by decide +kernel); rw [h1]; exact congrArg some h2
        clear h hsz hdf
        go_wp2
        exact ⟨_, rfl, ⟨_, rfl, Blk.newL wx 113 [.int .i64 (pc : Nat), .int .i64 from_, .slice AC caps.length cC], hE.size⟩, .of_ext (Ext.new1 _ _)⟩
      ·
        intro ac wx hE hP hsz hdf h
        have e83 : ac.tmps[83]? = some (.slice A' W.length c') := by obtain ⟨v, h1, h2⟩ := h 83 (by decide +kernel); rw [h1]; exact congrArg some h2
        obtain ⟨v85, e85, s85⟩ : ∃ v, ac.tmps[85]? = some v ∧ (∃ vb : Nat, v = .slice (some ⟨vb, 0, none⟩) 1 1 ∧ Blk wx vb 113 [.int .i64 (pc : Nat), .int .i64 from_, .slice AC caps.length cC] ∧ wc.heap.size ≤ vb) := h 85 (by decide +kernel)
        clear h hsz hdf
        obtain ⟨vb, rfl, hvb8, hvb9⟩ := s85; have ho8 := hP.2.1 rfl; have hsz8 := hE.size; have hgr8 := Blk.lt hb3
        go_wp2_with ((refine wpList_app2 elemWay rfl (.tmp 83) (.tmp 85) rfl (v := .slice A' W.length c') (n := W.length) (xs := cs) (by simp [Act.eval, e83]) ho8 (by omega) (A := some ⟨vb, 0, none⟩) (m := 1) (c := 1) (news := [.int .i64 (pc : Nat), .int .i64 from_, .slice AC caps.length cC]) (by simp [Act.eval, e85]) (by have := Blk.rd (n := 1) (size := 3) hvb8 0 (by simp); rwa [List.drop_zero, List.take_of_length_le (by simp)] at this) hone (by have := HWL.out; omega) (by have := HWL.out; unfold maxLen; omega) ?_; intro v9 w9 hown9 hgr9 _ hat9))
        obtain ⟨A9, c9, e9, _, _, _⟩ := own_rd hown9; exact ⟨_, rfl, ⟨⟨A9, c9, e9⟩, hown9, fun he => (by have := (hown9.lt R.gr he).1; omega), fun j hj => by (rcases hat9 with hn8 | hn8 <;> rw [hn8] at hj; exact .inl hj; injection hj with hj; exact .inr (by omega))⟩, ⟨hgr9.by_.os, hgr9.by_.tape, hgr9.by_.output, hgr9.by_.size, fun k hk hkn => hgr9.by_.block k hk (fun e => hkn (by simp [← e]))⟩⟩
      ·
        intro ac wx hE hP hsz hdf h
        have e79 : ac.tmps[79]? = some (.pointer (some ⟨R.gr, 0, none⟩)) := by obtain ⟨v, h1, h2⟩ := h 79 (by decide +kernel); rw [h1]; exact congrArg some h2
        clear h hsz hdf
        go_wp2
        exact ⟨_, rfl, rfl, Chg.refl _ _⟩
      ·
        intro ac wx hE hP hsz hdf h
        have e87 : ac.tmps[87]? = some (.pointer (some ⟨R.gr, 0, none⟩)) := by obtain ⟨v, h1, h2⟩ := h 87 (by decide +kernel); rw [h1]; exact congrArg some h2
        clear h hsz hdf
        go_wp2
        exact ⟨_, rfl, rfl, Chg.refl _ _⟩
      ·
        intro ac wx hE hP hsz hdf h
        have e88 : ac.tmps[88]? = some (.pointer (some ⟨R.gr, 3, none⟩)) := by obtain ⟨v, h1, h2⟩ := h 88 (by decide +kernel); rw [h1]; exact congrArg some h2
        obtain ⟨v86, e86, s86⟩ : ∃ v, ac.tmps[86]? = some v ∧ (∃ A9 c9, v = .slice A9 (W.length + 1) c9 ∧ wx.ownsRow (R.gr + 1) 113 3 v (W.length + 1) (cs ++ [.int .i64 (pc : Nat), .int .i64 from_, .slice AC caps.length cC]) ∧ v.ownBlock ≠ some R.gr ∧ (∀ j, v.ownBlock = some j → (Value.slice A' W.length c').ownBlock = some j ∨ wc.heap.size ≤ j)) := h 86 (by decide +kernel)
        clear h hsz hdf
        obtain ⟨A9, c9, rfl, hro, hrn, hra⟩ := s86; have hb11 := hP.2.2.1 rfl; have f11 := hb11.frozen 3; have y11 : wx.cell? ⟨R.gr, 3, none⟩ = some (.slice A' W.length c') := hb11.cell 3
        go_wp2
        exact ⟨⟨_, hb11.set_ 3 (.slice A9 (W.length + 1) c9), own_chg hro ((Chg.refl [R.gr] wx).setCell (p := ⟨R.gr, 3, none⟩) (by simp) _) (fun j hj hm => by simp at hm; subst hm; exact hrn hj), hra⟩, (Chg.refl [R.gr] wx).setCell (by simp) _⟩
      · intro ac w9 hE hsz hdf h hrest
        obtain ⟨v0, s0, g0⟩ := h 0 _ rfl
        have e0 := g0 79 rfl
        obtain rfl : v0 = .pointer (some ⟨R.gr, 0, none⟩) := s0
        obtain ⟨v1, s1, g1⟩ := h 1 _ rfl
        have e1 := g1 80 rfl
        obtain rfl : v1 = .pointer (some ⟨R.gr, 0, none⟩) := s1
        obtain ⟨v2, s2, g2⟩ := h 2 _ rfl
        have e2 := g2 81 rfl
        obtain rfl : v2 = .pointer (some ⟨R.gr, 0, none⟩) := s2
        obtain ⟨v3, s3, g3⟩ := h 3 _ rfl
        have e3 := g3 82 rfl
        obtain rfl : v3 = .pointer (some ⟨R.gr, 3, none⟩) := s3
        obtain ⟨v4, s4, g4⟩ := h 4 _ rfl
        have e4 := g4 83 rfl
        obtain rfl : v4 = .slice A' W.length c' := s4
        obtain ⟨v5, s5, g5⟩ := h 5 _ rfl
        have e5 := g5 84 rfl
        obtain rfl : v5 = .agg #[.int .i64 (pc : Nat), .int .i64 from_, .slice AC caps.length cC] := s5
        obtain ⟨v6, s6, g6⟩ := h 6 _ rfl
        have e6 := g6 85 rfl
        replace s6 : ∃ vb : Nat, v6 = .slice (some ⟨vb, 0, none⟩) 1 1 ∧ Blk w9 vb 113 [.int .i64 (pc : Nat), .int .i64 from_, .slice AC caps.length cC] ∧ wc.heap.size ≤ vb := s6
        obtain ⟨v7, s7, g7⟩ := h 7 _ rfl
        have e7 := g7 86 rfl
        replace s7 : ∃ A9 c9, v7 = .slice A9 (W.length + 1) c9 ∧ w9.ownsRow (R.gr + 1) 113 3 v7 (W.length + 1) (cs ++ [.int .i64 (pc : Nat), .int .i64 from_, .slice AC caps.length cC]) ∧ v7.ownBlock ≠ some R.gr ∧ (∀ j, v7.ownBlock = some j → (Value.slice A' W.length c').ownBlock = some j ∨ wc.heap.size ≤ j) := s7
        obtain ⟨v8, s8, g8⟩ := h 8 _ rfl
        have e8 := g8 87 rfl
        obtain rfl : v8 = .pointer (some ⟨R.gr, 0, none⟩) := s8
        obtain ⟨v9, s9, g9⟩ := h 9 _ rfl
        have e9 := g9 88 rfl
        obtain rfl : v9 = .pointer (some ⟨R.gr, 3, none⟩) := s9
        obtain ⟨v10, s10, -⟩ := h 10 _ rfl
        replace s10 : ∃ u, Blk w9 R.gr 103 [.slice R.A R.c.length R.cc, .int .i64 (R.G : Nat), .int .i64 pos, u, .slice (some ⟨R.gs, 0, none⟩) R.c.length R.c.length, .int .i64 turn] ∧ w9.ownsRow (R.gr + 1) 113 3 u (W.length + 1) (cs ++ [.int .i64 (pc : Nat), .int .i64 from_, .slice AC caps.length cC]) ∧ (∀ j, u.ownBlock = some j → (Value.slice A' W.length c').ownBlock = some j ∨ wc.heap.size ≤ j) := s10
        have ha := act_of [(79, .pointer (some ⟨R.gr, 0, none⟩)), (80, .pointer (some ⟨R.gr, 0, none⟩)), (81, .pointer (some ⟨R.gr, 0, none⟩)), (82, .pointer (some ⟨R.gr, 3, none⟩)), (83, .slice A' W.length c'), (84, .agg #[.int .i64 (pc : Nat), .int .i64 from_, .slice AC caps.length cC]), (85, v6), (86, v7), (87, .pointer (some ⟨R.gr, 0, none⟩)), (88, .pointer (some ⟨R.gr, 3, none⟩))] rfl hsz hdf (by intro p hp; simp only [List.mem_cons, List.not_mem_nil, or_false] at hp; rcases hp with rfl | rfl | rfl | rfl | rfl | rfl | rfl | rfl | rfl | rfl <;> first | exact e0 | exact e1 | exact e2 | exact e3 | exact e4 | exact e5 | exact e6 | exact e7 | exact e8 | exact e9) hrest
        clear h hrest hsz hdf e0 e1 e2 e3 e4 e5 e6 e7 e8 e9 g0 g1 g2 g3 g4 g5 g6 g7 g8 g9
        subst ha
        simp only [List.foldl_cons, List.foldl_nil, Act.put, List.setIfInBounds_toArray, List.set_cons_succ, List.set_cons_zero]
        obtain ⟨u, hb, ho, hr⟩ := s10
        have hcs : Chg (R.gr :: R.gs :: (Value.slice A' W.length c').ownBlock.toList) wc w9 := hE.mono fun x hx => by
          rcases List.mem_append.1 hx with hx | hx
          · exact List.mem_cons_of_mem _ (List.mem_cons_of_mem _ hx)
          · simp at hx; subst hx; exact List.mem_cons_self
        have hN9 : RN R wc (.slice A' W.length c') w9 u := ⟨hcs, hr⟩
        have hC9 : CapV R.gr w9 (.slice AC caps.length cC) caps := HXR.out.cap HXC.out hN9
        have hall := HJ.out.all
        rw [HL9.out] at hall
        simp only [List.map_cons, List.map_nil] at hall
        have hXX : ∀ x ∈ (Value.slice A' W.length c').ownBlock.toList ++ [R.gr], x ∈ R.gr :: R.gs :: (Value.slice A' W.length c').ownBlock.toList := fun x hx => by
          rcases List.mem_append.1 hx with hx | hx
          · exact List.mem_cons_of_mem _ (List.mem_cons_of_mem _ hx)
          · simp at hx; subst hx; exact List.mem_cons_self
        have hseen : Blk w9 R.gs 3 (intsV (sv.set pc turn)) := HXR.out.seen.chg hE (by
          rw [List.mem_append]
          rintro (hm | hm)
          · have := (hO.lt R.gs (by simpa using hm)).1; have := HXR.out.ord; omega
          · simp at hm; have := HXR.out.ord; omega)
        have hM9 : RunM R w9 pos u (cs ++ [.int .i64 (pc : Nat), .int .i64 from_, .slice AC caps.length cC]) WT (sv.set pc turn) turn := by
          refine ⟨hb, HXR.out.code.chg hcs (fun _ b o x e => HXR.out.codeX b o x e), HXR.out.low, HXR.out.ord, hseen, HXR.out.len, ?_, ?_⟩
          · rw [← hall, List.length_append]; exact ho
          · rw [← hall]
            exact WaysV.app (a := (pc, from_, caps)) hC9 (HXR.out.ways.map fun cv l hq => HXR.out.cap hq hN9)
        go_wp2
        try simp only [Exit.jump]
        go_end0
        exact ⟨rfl, u, _, _, hM9, by rw [HS9.out]; exact HSB.out, HSL.out, HXN.out.trans hN9⟩
end Go.Proofs.YtdhmfgaiomfodaaDoor
