/- Put together: Sm22, Sm23, Sm24, Sm25, Sm26. -/
import Derived.Test.YtdhmfgaiomfodaaDoorRNsF
import Derived.Test.YtdhmfgaiomfodaaDoorRNsA
import Derived.Test.YtdhmfgaiomfodaaDoorRTgS
import Derived.Test.YtdhmfgaiomfodaaDoorRNsE
import Derived.Deep.LoopGhost
import Derived.Deep.DeepCutAuto
import Derived.Test.YtdhmfgaiomfodaaDoorRNsD
import Derived.BigQuiet
import Derived.BigRegion
namespace Go.Proofs.YtdhmfgaiomfodaaDoor
open Go Go.RowKit

abbrev D2 := Nat → Nat → Bool
def insD (D : D2) (a p : Nat) : D2 := fun a' p' => D a' p' || (a' == a && p' == p)
theorem insD_same (D : D2) (a p : Nat) : insD D a p a = ins (D a) p := by
  funext p'
  unfold insD ins
  simp
theorem insD_other (D : D2) {a p a' : Nat} (h : a' ≠ a) : insD D a p a' = D a' := by
  funext p'
  unfold insD
  simp [h]
inductive Wk (c : List Ins) (txt : List UInt8) (base : Int) : D2 → Nat → Nat → List Int → D2 → Option (List Int) → Prop where
  | seen {D : D2} {pc at_ : Nat} {k : List Int} : D at_ pc = true → Wk c txt base D pc at_ k D none
  | stop {D : D2} {pc at_ : Nat} {k : List Int} {i : Ins} : D at_ pc = false → c[pc]? = some i → i.op = 1 → (∀ b, txt[at_]? = some b → i.set b.toNat = false) → Wk c txt base D pc at_ k (insD D at_ pc) none
  | byte {D D' : D2} {pc at_ : Nat} {k : List Int} {i : Ins} {b : UInt8} {r : Option (List Int)} : D at_ pc = false → c[pc]? = some i → i.op = 1 → txt[at_]? = some b → i.set b.toNat = true →
      Wk c txt base (insD D at_ pc) (pc + 1) (at_ + 1) k D' r → Wk c txt base D pc at_ k D' r
  | jump {D D' : D2} {pc at_ : Nat} {k : List Int} {i : Ins} {r : Option (List Int)} : D at_ pc = false → c[pc]? = some i → i.op = 2 → Wk c txt base (insD D at_ pc) i.x.toNat at_ k D' r → Wk c txt base D pc at_ k D' r
  | left {D D' : D2} {pc at_ : Nat} {k q : List Int} {i : Ins} : D at_ pc = false → c[pc]? = some i → i.op = 3 → Wk c txt base (insD D at_ pc) i.x.toNat at_ k D' (some q) → Wk c txt base D pc at_ k D' (some q)
  | right {D D1 D' : D2} {pc at_ : Nat} {k : List Int} {i : Ins} {r : Option (List Int)} : D at_ pc = false → c[pc]? = some i → i.op = 3 → Wk c txt base (insD D at_ pc) i.x.toNat at_ k D1 none →
      Wk c txt base D1 i.y.toNat at_ k D' r → Wk c txt base D pc at_ k D' r
  | save {D D' : D2} {pc at_ : Nat} {k : List Int} {i : Ins} {r : Option (List Int)} : D at_ pc = false → c[pc]? = some i → i.op = 4 → Wk c txt base (insD D at_ pc) (pc + 1) at_ (k.set (i.n - 2).toNat (base + at_)) D' r → Wk c txt base D pc at_ k D' r
  | fin {D : D2} {pc at_ : Nat} {k : List Int} {i : Ins} : D at_ pc = false → c[pc]? = some i → i.op = 5 → Wk c txt base D pc at_ k (insD D at_ pc) (if at_ = txt.length then some k else none)

section
variable {c : List Ins} {txt : List UInt8} {base : Int}
def DryD (c : List Ins) (txt : List UInt8) (D : D2) (a0 : Nat) : Prop := ∀ a, a0 < a → Dry c (txt.drop a) (D a)
theorem fol_split {pos : Int} {s s' : Nat → Bool} {pc : Nat} {k : List Int} {L : List Th} {i : Ins} (hs : s pc = false) (hi : c[pc]? = some i) (ho : i.op = 3) (h : Fol c pos s pc k s' L) :
    ∃ s1 L1 L2, Fol c pos (ins s pc) i.x.toNat k s1 L1 ∧ Fol c pos s1 i.y.toNat k s' L2 ∧ L = L1 ++ L2 := by
  cases h with
  | seen h => rw [hs] at h; cases h
  | jump _ hi' ho' _ => rw [hi] at hi'; cases hi'; rw [ho] at ho'; cases ho'
  | split _ hi' _ h1 h2 => rw [hi] at hi'; cases hi'; exact ⟨_, _, _, h1, h2, rfl⟩
  | save _ hi' ho' _ => rw [hi] at hi'; cases hi'; rw [ho] at ho'; cases ho'
  | stand _ hi' _ h3 _ => rw [hi] at hi'; cases hi'; exact absurd ho h3
theorem fol_jump {pos : Int} {s s' : Nat → Bool} {pc : Nat} {k : List Int} {L : List Th} {i : Ins} (hs : s pc = false) (hi : c[pc]? = some i) (ho : i.op = 2) (h : Fol c pos s pc k s' L) : Fol c pos (ins s pc) i.x.toNat k s' L := by
  cases h with
  | seen h => rw [hs] at h; cases h
  | jump _ hi' _ h1 => rw [hi] at hi'; cases hi'; exact h1
  | split _ hi' ho' _ _ => rw [hi] at hi'; cases hi'; rw [ho] at ho'; cases ho'
  | save _ hi' ho' _ => rw [hi] at hi'; cases hi'; rw [ho] at ho'; cases ho'
  | stand _ hi' h2 _ _ => rw [hi] at hi'; cases hi'; exact absurd ho h2
theorem fol_save {pos : Int} {s s' : Nat → Bool} {pc : Nat} {k : List Int} {L : List Th} {i : Ins} (hs : s pc = false) (hi : c[pc]? = some i) (ho : i.op = 4) (h : Fol c pos s pc k s' L) : Fol c pos (ins s pc) (pc + 1) (k.set (i.n - 2).toNat pos) s' L := by
  cases h with
  | seen h => rw [hs] at h; cases h
  | jump _ hi' ho' _ => rw [hi] at hi'; cases hi'; rw [ho] at ho'; cases ho'
  | split _ hi' ho' _ _ => rw [hi] at hi'; cases hi'; rw [ho] at ho'; cases ho'
  | save _ hi' _ h1 => rw [hi] at hi'; cases hi'; exact h1
  | stand _ hi' _ _ h4 => rw [hi] at hi'; cases hi'; exact absurd ho h4
theorem fol_stand {pos : Int} {s s' : Nat → Bool} {pc : Nat} {k : List Int} {L : List Th} {i : Ins} (hs : s pc = false) (hi : c[pc]? = some i) (ho : i.op = 1 ∨ i.op = 5) (h : Fol c pos s pc k s' L) : s' = ins s pc ∧ L = [(pc, k)] := by
  cases h with
  | seen h => rw [hs] at h; cases h
  | jump _ hi' ho' _ => rw [hi] at hi'; cases hi'; omega
  | split _ hi' ho' _ _ => rw [hi] at hi'; cases hi'; omega
  | save _ hi' ho' _ => rw [hi] at hi'; cases hi'; omega
  | stand _ _ _ _ _ => exact ⟨rfl, rfl⟩
theorem one_same (hc : Closed c) {r : List UInt8} {pos : Int} {s s' : Nat → Bool} {pc : Nat} {k : List Int} {L : List Th} (h : Fol c pos s pc k s' L) (hd : Dry c r s) (hp : pc < c.length) :
    L.findSome? (res c r pos) = (clo c pos pc k).findSome? (res c r pos) ∧ (L.findSome? (res c r pos) = none → Dry c r s') := by
  have hS : Seq c pos s [(pc, 0, k)] s' (L.map (fun e => (e.1, (0 : Int), e.2)) ++ []) := .cons h .nil
  obtain ⟨h1, h2⟩ := seq_same hc hS hd (fun w hw => by simp at hw; subst hw; exact hp)
  rw [List.append_nil, find_map] at h1 h2
  simp only [List.findSome?_cons, List.findSome?_nil] at h1
  have e : fromHere c r pos (pc, 0, k) = ((clo c pos pc k).findSome? (res c r pos)).map fun q => ((0 : Int), q) := rfl
  rw [e] at h1
  constructor
  · cases ha : L.findSome? (res c r pos) <;> cases hb : (clo c pos pc k).findSome? (res c r pos) <;> rw [ha, hb] at h1 <;> simp at h1
    · subst h1; rfl
  · intro hn
    exact h2 (by rw [hn]; rfl)
theorem res_fin {i : Ins} {pc at_ : Nat} {k : List Int} {pos : Int} (hi : c[pc]? = some i) (ho : i.op = 5) (ha : at_ ≤ txt.length) : res c (txt.drop at_) pos (pc, k) = if at_ = txt.length then some k else none := by
  by_cases h : at_ = txt.length
  · subst h
    rw [List.drop_length, if_pos rfl]
    unfold res
    rw [hi]
    dsimp only
    rw [if_pos ho]
  · rw [if_neg h, List.drop_eq_getElem_cons (by omega)]
    unfold res
    rw [hi]
    dsimp only
    rw [if_neg (by omega)]
theorem res_stop {i : Ins} {pc at_ : Nat} {k : List Int} {pos : Int} (hi : c[pc]? = some i) (ho : i.op = 1) (hb : ∀ b, txt[at_]? = some b → i.set b.toNat = false) : res c (txt.drop at_) pos (pc, k) = none := by
  by_cases h : at_ < txt.length
  · rw [List.drop_eq_getElem_cons h]
    unfold res
    rw [hi]
    dsimp only
    rw [if_neg (by rw [hb _ (List.getElem?_eq_getElem h)]; simp)]
  · rw [List.drop_eq_nil_of_le (by omega)]
    unfold res
    rw [hi]
    dsimp only
    rw [if_neg (by omega)]
theorem wk_law (hc : Closed c) {D D' : D2} {pc at_ : Nat} {k : List Int} {r : Option (List Int)} (h : Wk c txt base D pc at_ k D' r) :
    at_ ≤ txt.length → pc < c.length → DryD c txt D at_ → ∀ {s' : Nat → Bool} {L : List Th}, Fol c (base + at_) (D at_) pc k s' L →
      r = L.findSome? (res c (txt.drop at_) (base + at_)) ∧ (∀ a, a < at_ → D' a = D a) ∧ (r = none → D' at_ = s' ∧ DryD c txt D' at_) := by
  induction h with
  | @seen D pc at_ k hs =>
    intro _ _ hd s' L hf
    cases hf with
    | seen _ => exact ⟨rfl, fun _ _ => rfl, fun _ => ⟨rfl, hd⟩⟩
    | jump h _ _ _ => rw [hs] at h; cases h
    | split h _ _ _ _ => rw [hs] at h; cases h
    | save h _ _ _ => rw [hs] at h; cases h
    | stand h _ _ _ _ => rw [hs] at h; cases h
  | @stop D pc at_ k i hs hi ho hb =>
    intro _ _ hd s' L hf
    obtain ⟨rfl, rfl⟩ := fol_stand hs hi (.inl ho) hf
    refine ⟨?_, fun a ha => insD_other D (by omega), fun _ => ⟨insD_same D _ _, fun a ha => ?_⟩⟩
    · rw [List.findSome?_cons, res_stop hi ho hb]; rfl
    · rw [insD_other D (by omega)]; exact hd a ha
  | @byte D D' pc at_ k i b r hs hi ho hb hset hw ih =>
    intro hat _ hd s' L hf
    obtain ⟨rfl, rfl⟩ := fol_stand hs hi (.inl ho) hf
    have hlt := (List.getElem?_eq_some_iff.1 hb).1
    have hpc := hc.next pc i hi (.inl ho)
    have hd1 : DryD c txt (insD D at_ pc) (at_ + 1) := fun a ha => by rw [insD_other D (by omega)]; exact hd a (by omega)
    obtain ⟨s0, L0, hf0⟩ := fol_ex hc (base + (at_ + 1 : Nat)) (insD D at_ pc (at_ + 1)) k hpc
    obtain ⟨a1, a2, a3⟩ := ih (by omega) hpc hd1 hf0
    have hdry : Dry c (txt.drop (at_ + 1)) (insD D at_ pc (at_ + 1)) := by rw [insD_other D (by omega)]; exact hd _ (by omega)
    obtain ⟨b1, b2⟩ := one_same hc hf0 hdry hpc
    have hr : res c (txt.drop at_) (base + at_) (pc, k) = (clo c (base + (at_ + 1 : Nat)) (pc + 1) k).findSome? (res c (txt.drop (at_ + 1)) (base + (at_ + 1 : Nat))) := by
      obtain ⟨hl2, rfl⟩ := List.getElem?_eq_some_iff.1 hb
      rw [List.drop_eq_getElem_cons hlt, show base + ((at_ + 1 : Nat) : Int) = base + (at_ : Int) + 1 by omega]
      conv => lhs; unfold res
      rw [hi]
      dsimp only
      rw [if_pos ⟨ho, hset⟩]
    refine ⟨?_, fun a ha => ?_, fun hn => ⟨?_, fun a ha => ?_⟩⟩
    · rw [List.findSome?_cons, hr, ← b1, ← a1]
      cases r <;> rfl
    · rw [a2 a (by omega), insD_other D (by omega)]
    · rw [a2 at_ (by omega), insD_same]
    · obtain ⟨c1, c2⟩ := a3 hn
      by_cases he : a = at_ + 1
      · subst he
        rw [c1]
        exact b2 (by rw [← a1]; exact hn)
      · exact c2 a (by omega)
  | @jump D D' pc at_ k i r hs hi ho hw ih =>
    intro hat _ hd s' L hf
    have hd1 : DryD c txt (insD D at_ pc) at_ := fun a ha => by rw [insD_other D (by omega)]; exact hd a ha
    obtain ⟨a1, a2, a3⟩ := ih hat (hc.jump pc i hi ho) hd1 (by rw [insD_same]; exact fol_jump hs hi ho hf)
    exact ⟨a1, fun a ha => by rw [a2 a ha, insD_other D (by omega)], a3⟩
  | @left D D' pc at_ k q i hs hi ho hw ih =>
    intro hat _ hd s' L hf
    obtain ⟨s1, L1, L2, f1, f2, rfl⟩ := fol_split hs hi ho hf
    have hd1 : DryD c txt (insD D at_ pc) at_ := fun a ha => by rw [insD_other D (by omega)]; exact hd a ha
    obtain ⟨a1, a2, a3⟩ := ih hat (hc.split pc i hi ho).1 hd1 (by rw [insD_same]; exact f1)
    exact ⟨by rw [List.findSome?_append, ← a1]; rfl, fun a ha => by rw [a2 a ha, insD_other D (by omega)], fun hn => by cases hn⟩
  | @right D D1 D' pc at_ k i r hs hi ho hw1 hw2 ih1 ih2 =>
    intro hat _ hd s' L hf
    obtain ⟨s1, L1, L2, f1, f2, rfl⟩ := fol_split hs hi ho hf
    have hd1 : DryD c txt (insD D at_ pc) at_ := fun a ha => by rw [insD_other D (by omega)]; exact hd a ha
    obtain ⟨a1, a2, a3⟩ := ih1 hat (hc.split pc i hi ho).1 hd1 (by rw [insD_same]; exact f1)
    obtain ⟨c1, c2⟩ := a3 rfl
    obtain ⟨b1, b2, b3⟩ := ih2 hat (hc.split pc i hi ho).2 c2 (by rw [c1]; exact f2)
    exact ⟨by rw [List.findSome?_append, ← a1, ← b1]; rfl, fun a ha => by rw [b2 a ha, a2 a ha, insD_other D (by omega)], b3⟩
  | @save D D' pc at_ k i r hs hi ho hw ih =>
    intro hat _ hd s' L hf
    have hd1 : DryD c txt (insD D at_ pc) at_ := fun a ha => by rw [insD_other D (by omega)]; exact hd a ha
    obtain ⟨a1, a2, a3⟩ := ih hat (hc.next pc i hi (.inr ho)) hd1 (by rw [insD_same]; exact fol_save hs hi ho hf)
    exact ⟨a1, fun a ha => by rw [a2 a ha, insD_other D (by omega)], a3⟩
  | @fin D pc at_ k i hs hi ho =>
    intro hat _ hd s' L hf
    obtain ⟨rfl, rfl⟩ := fol_stand hs hi (.inr ho) hf
    refine ⟨?_, fun a ha => insD_other D (by omega), fun _ => ⟨insD_same D _ _, fun a ha => ?_⟩⟩
    · rw [List.findSome?_cons, res_fin hi ho hat]
      by_cases h : at_ = txt.length <;> simp [h]
    · rw [insD_other D (by omega)]; exact hd a ha
theorem wk_from (hc : Closed c) (h0 : 0 < c.length) {k : List Int} {D' : D2} {r : Option (List Int)} (h : Wk c txt base (fun _ _ => false) 0 0 k D' r) : fromHere c txt base (0, base, k) = r.map fun q => (base, q) := by
  obtain ⟨s', hf⟩ := clo_fol hc (base + (0 : Nat)) k h0
  obtain ⟨a1, _⟩ := wk_law hc h (Nat.zero_le _) h0 (fun a _ p hp => by cases hp) hf
  rw [a1]
  unfold fromHere
  simp
end
end Go.Proofs.YtdhmfgaiomfodaaDoor
namespace Go.Proofs.YtdhmfgaiomfodaaDoor
open Go Go.RowKit
attribute [local irreducible] wd

def diC (i : Ins) : List Value := [.int .i64 i.op, .int .i64 i.x, .int .i64 i.y, .int .i64 i.n] ++ (bcs i.set).toList
theorem di_len (i : Ins) : (diC i).length = 260 := by
  unfold diC
  have := bcs_size i.set
  simp only [List.length_append, List.length_cons, List.length_nil, Array.length_toList]
  omega
theorem di_0 (i : Ins) : (diC i)[0]? = some (.int .i64 i.op) := rfl
theorem di_1 (i : Ins) : (diC i)[1]? = some (.int .i64 i.x) := rfl
theorem di_2 (i : Ins) : (diC i)[2]? = some (.int .i64 i.y) := rfl
theorem di_3 (i : Ins) : (diC i)[3]? = some (.int .i64 i.n) := rfl
theorem di_set (i : Ins) {j : Nat} (hj : j < 256) : (diC i)[4 + j]? = some (.bool (i.set j)) := by
  unfold diC
  have hs := bcs_size i.set
  have h1 := bcs_get i.set hj
  rw [List.getElem?_append_right (by simp)]
  simp only [List.length_cons, List.length_nil]
  rw [show 4 + j - (0 + 1 + 1 + 1 + 1) = j by omega, Array.getElem?_toList, h1]
theorem di_at (i : Ins) (j : Nat) : (diC i)[j]? = if j = 0 then some (.int .i64 i.op) else if j = 1 then some (.int .i64 i.x) else if j = 2 then some (.int .i64 i.y) else if j = 3 then some (.int .i64 i.n) else if j < 260 then some (.bool (i.set (j - 4))) else none := by
  by_cases h0 : j = 0
  · subst h0; rfl
  rw [if_neg h0]
  by_cases h1 : j = 1
  · subst h1; rfl
  rw [if_neg h1]
  by_cases h2 : j = 2
  · subst h2; rfl
  rw [if_neg h2]
  by_cases h3 : j = 3
  · subst h3; rfl
  rw [if_neg h3]
  by_cases h4 : j < 260
  · rw [if_pos h4]
    have := di_set i (j := j - 4) (by omega)
    rw [show 4 + (j - 4) = j by omega] at this
    exact this
  rw [if_neg h4, List.getElem?_eq_none (by rw [di_len]; omega)]
theorem di_one (i : Ins) : (diC i).all (·.oneCell') = true := by
  unfold diC
  have h : (bcs i.set).toList.all (·.oneCell') = true := by rw [Array.all_toList]; exact bcs_one i.set
  rw [List.all_append, h]
  rfl
theorem di_size : (Tryd.prog.info? 47).map (·.size) = some 260 := by kernel_rfl
theorem di_zsize : Tryd.zeroCells47.size = 260 := by kernel_rfl
theorem di_zero : Tryd.zeroCells47 = (diC ⟨0, 0, 0, 0, fun _ => false⟩).toArray := by
  unfold diC bcs
  kernel_rfl
attribute [irreducible] diC

def IB (w : World) (g : Nat) (i : Ins) : Prop := Blk w g 47 (diC i)
section
variable {w w' : World} {g : Nat} {i : Ins}
theorem IB.keep (h : IB w g i) (hx : Ext w w') : IB w' g i := Blk.keep h hx
theorem IB.lt (h : IB w g i) : g < w.heap.size := Blk.lt h
theorem IB.op (h : IB w g i) : w.cell? ⟨g, 0, none⟩ = some (.int .i64 i.op) := (Blk.cell h 0).trans (di_0 _)
theorem IB.x (h : IB w g i) : w.cell? ⟨g, 1, none⟩ = some (.int .i64 i.x) := (Blk.cell h 1).trans (di_1 _)
theorem IB.y (h : IB w g i) : w.cell? ⟨g, 2, none⟩ = some (.int .i64 i.y) := (Blk.cell h 2).trans (di_2 _)
theorem IB.n (h : IB w g i) : w.cell? ⟨g, 3, none⟩ = some (.int .i64 i.n) := (Blk.cell h 3).trans (di_3 _)
theorem IB.set (h : IB w g i) {j : Nat} (hj : j < 256) : w.cell? ⟨g, 4 + j, none⟩ = some (.bool (i.set j)) := (Blk.cell h (4 + j)).trans (di_set _ hj)
end
section
variable {w : World} {ops : Array Oper} {rest : List Oper} {o : Oper} {a : Act} {Q : Exit → Act → World → Prop}
theorem load_di (hgd : o.guard = none) (x : Operand) (ho : o.op = .load 47 x)
    {b q : Nat} {i : Ins} (hx : a.eval x = .pointer (some ⟨b, q, none⟩)) (hg : w.rangeAt b q (diC i))
    (h : wpList Tryd.prog ops Q rest (a.put o.dst (.agg (diC i).toArray)) w) : wpList Tryd.prog ops Q (o :: rest) a w :=
  wpList_load_mid hgd _ x ho b q hx _ _ hg Tryd.underlying47 rfl (by rw [di_len]; exact di_size) h
theorem store_di_new {w : World} (hgd : o.guard = none) (x y : Operand) (ho : o.op = .store 47 x y) {zc : Array Value}
    {i : Ins} (hx : a.eval x = .pointer (some ⟨w.heap.size, 0, none⟩)) (hy : a.eval y = .agg (diC i).toArray) (hl : zc.size = 260)
    (h : wpList Tryd.prog ops Q rest (a.put o.dst undef) (w.alloc (.cells (diC i).toArray 47))) : wpList Tryd.prog ops Q (o :: rest) a (w.alloc (.cells zc 47)) := by
  refine wpList_store_row hgd _ x y ho w.heap.size _ hx hy _ zc (heap_alloc_last w _) (by simp only [List.size_toArray, di_len]; exact di_size) (by simp only [List.size_toArray, di_len, hl]) (by rw [List.all_toArray]; exact di_one _) ?_
  rw [World.setRow_alloc_new]
  exact h
end
theorem di_built (parts : List (Nat × Value)) : Tryd.prog.built 47 parts = Instr.fill (#[(0, 1), (1, 1), (2, 1), (3, 1), (4, 256)][·]?) Tryd.zeroCells47 parts := by kernel_rfl
theorem built_di (i : Ins) : Tryd.prog.built 47 [(0, .int .i64 i.op), (1, .int .i64 i.x), (2, .int .i64 i.y), (3, .int .i64 i.n), (4, bp i.set)] = some (diC i).toArray := by
  rw [di_built, di_zero]
  have hs : (diC ⟨0, 0, 0, 0, fun _ => false⟩).toArray.size = 260 := by rw [List.size_toArray, di_len]
  obtain ⟨c1, e1, s1, g1⟩ := fill_step (#[(0, 1), (1, 1), (2, 1), (3, 1), (4, 256)][·]?) (diC ⟨0, 0, 0, 0, fun _ => false⟩).toArray 0 0 1 (.int .i64 i.op) [(1, .int .i64 i.x), (2, .int .i64 i.y), (3, .int .i64 i.n), (4, bp i.set)] rfl rfl (by omega)
  obtain ⟨c2, e2, s2, g2⟩ := fill_step (#[(0, 1), (1, 1), (2, 1), (3, 1), (4, 256)][·]?) c1 1 1 1 (.int .i64 i.x) [(2, .int .i64 i.y), (3, .int .i64 i.n), (4, bp i.set)] rfl rfl (by omega)
  obtain ⟨c3, e3, s3, g3⟩ := fill_step (#[(0, 1), (1, 1), (2, 1), (3, 1), (4, 256)][·]?) c2 2 2 1 (.int .i64 i.y) [(3, .int .i64 i.n), (4, bp i.set)] rfl rfl (by omega)
  obtain ⟨c4, e4, s4, g4⟩ := fill_step (#[(0, 1), (1, 1), (2, 1), (3, 1), (4, 256)][·]?) c3 3 3 1 (.int .i64 i.n) [(4, bp i.set)] rfl rfl (by omega)
  obtain ⟨c5, e5, s5, g5⟩ := fill_step (#[(0, 1), (1, 1), (2, 1), (3, 1), (4, 256)][·]?) c4 4 4 256 (bp i.set) [] rfl (bcs_size i.set) (by omega)
  rw [e1, e2, e3, e4, e5]
  show some c5 = _
  congr 1
  apply Array.ext_getElem?
  intro j
  have e0 : (diC ⟨0, 0, 0, 0, fun _ => false⟩).toArray[j]? = _ := (List.getElem?_toArray).trans (di_at _ j)
  have e9 : (diC i).toArray[j]? = _ := (List.getElem?_toArray).trans (di_at i j)
  rw [g5, g4, g3, g2, g1, e0, e9]
  have hb : ∀ n, (bp i.set).cells[n]? = if n < 256 then some (.bool (i.set n)) else none := fun n => by
    show (bcs i.set)[n]? = _
    by_cases h : n < 256
    · rw [bcs_get i.set h, if_pos h]
    · rw [bcs_out i.set h, if_neg h]
  rw [hb]
  by_cases h0 : j = 0
  · subst h0; rfl
  by_cases h1 : j = 1
  · subst h1; rfl
  by_cases h2 : j = 2
  · subst h2; rfl
  by_cases h3 : j = 3
  · subst h3; rfl
  by_cases h4 : j < 260
  · rw [if_pos ⟨by omega, by omega⟩, if_pos (by omega), if_neg h0, if_neg h1, if_neg h2, if_neg h3, if_pos h4]
  · rw [if_neg (by omega), if_neg (by omega), if_neg (by omega), if_neg (by omega), if_neg (by omega)]
    dsimp only
    rw [if_neg h0, if_neg h1, if_neg h2, if_neg h3, if_neg h4, if_neg h0, if_neg h1, if_neg h2, if_neg h3, if_neg h4]
theorem build_di {w : World} {ops : Array Oper} {rest : List Oper} {o : Oper} {a : Act} {Q : Exit → Act → World → Prop} (hg : o.guard = none) (x0 x1 x2 x3 x4 : Operand) (ho : o.op = .build 47 #[(0, x0), (1, x1), (2, x2), (3, x3), (4, x4)])
    {i : Ins} (h0 : a.eval x0 = .int .i64 i.op) (h1 : a.eval x1 = .int .i64 i.x) (h2 : a.eval x2 = .int .i64 i.y) (h3 : a.eval x3 = .int .i64 i.n) (h4 : a.eval x4 = bp i.set)
    (h : wpList Tryd.prog ops Q rest (a.put o.dst (.agg (diC i).toArray)) w) : wpList Tryd.prog ops Q (o :: rest) a w := by
  have e : (Array.map (fun (y : Nat × Operand) => (y.1, a.eval y.2)) #[(0, x0), (1, x1), (2, x2), (3, x3), (4, x4)]).toList = [(0, .int .i64 i.op), (1, .int .i64 i.x), (2, .int .i64 i.y), (3, .int .i64 i.n), (4, bp i.set)] := by simp [h0, h1, h2, h3, h4]
  refine wpList_build hg _ _ ho (by rw [e, built_di]; rfl) ?_
  rw [e, built_di]
  exact h
theorem mk_di {w : World} {ops : Array Oper} {rest : List Oper} {o : Oper} {a : Act} {Q : Exit → Act → World → Prop} (hg : o.guard = none) (x : Operand) (ho : o.op = .buildSlice 41 1 #[(0, x)]) {v : List Value} (hl : v.length = 260) (hx : a.eval x = .agg v.toArray)
    (h : wpList Tryd.prog ops Q rest (a.put o.dst (.slice (some ⟨w.heap.size, 0, none⟩) 1 1)) (w.alloc (.cells v.toArray 47))) : wpList Tryd.prog ops Q (o :: rest) a w := by
  cases hie : Tryd.prog.info? 47 with
  | none => have := di_size; rw [hie] at this; cases this
  | some ie =>
    have hsz := di_size
    rw [hie] at hsz
    simp only [Option.map_some, Option.some.injEq] at hsz
    have hz : ((Tryd.prog.info? 47).bind (·.zero)).isSome = true := by kernel_rfl
    rw [hie] at hz
    simp only [Option.bind_some] at hz
    obtain ⟨z, hzz⟩ := Option.isSome_iff_exists.1 hz
    refine wpList_buildSlice hg _ 47 1 #[(0, x)] ho v.toArray ie z Tryd.underlying41 hie hzz (by rw [hsz]; omega) (by rw [hsz]; omega) ?_ h
    have := Great.fill_whole (s := 260) (by omega) [.agg v.toArray] ((Array.range (1 * ie.size)).map (z.cells[· % z.cells.size]!)) (fun u hu => by simp at hu; subst hu; show v.toArray.size = 260; rw [List.size_toArray, hl]) (by rw [Array.size_map, Array.size_range, hsz]; rfl)
    rw [hsz] at this ⊢
    have e3 : (Array.map (fun (y : Nat × Operand) => (y.1, a.eval y.2)) #[(0, x)]).toList = [(0, Value.agg v.toArray)] := by simp [hx]
    rw [e3]
    have e : ([Value.agg v.toArray].flatMap fun v => v.cells.toList) = v := by simp [Value.cells]
    rw [e] at this
    exact this
theorem elemDi : Elem Tryd.prog 41 47 (.agg Tryd.zeroCells47) 260 288 := ⟨Tryd.underlying41, by kernel_rfl, by show Tryd.zeroCells47.size = 260; exact di_zsize, by omega⟩

def codeD (c : List Ins) : List Value := c.flatMap diC
theorem codeD_len (c : List Ins) : (codeD c).length = c.length * 260 := by
  unfold codeD
  induction c with
  | nil => rfl
  | cons i c ih => rw [List.flatMap_cons, List.length_append, ih, di_len, List.length_cons]; omega
theorem codeD_get {c : List Ins} {pc : Nat} {i : Ins} (hi : c[pc]? = some i) {j : Nat} (hj : j < 260) : (codeD c)[pc * 260 + j]? = (diC i)[j]? := by
  have e3 : c = c.take pc ++ i :: c.drop (pc + 1) := by
    obtain ⟨_, rfl⟩ := List.getElem?_eq_some_iff.1 hi
    simp
  have hlt := (List.getElem?_eq_some_iff.1 hi).1
  have hl : (codeD (c.take pc)).length = pc * 260 := by rw [codeD_len, List.length_take, Nat.min_eq_left (by omega)]
  have e4 : codeD c = codeD (c.take pc) ++ (diC i ++ codeD (c.drop (pc + 1))) := by
    conv => lhs; rw [e3]
    unfold codeD
    rw [List.flatMap_append, List.flatMap_cons]
  rw [e4, List.getElem?_append_right (by omega), hl, show pc * 260 + j - pc * 260 = j by omega, List.getElem?_append_left (by rw [di_len]; exact hj)]
theorem codeD_at {w : World} {A : Option Addr} {c : List Ins} (h : Rd w 260 A c.length (codeD c)) {pc : Nat} {i : Ins} (hi : c[pc]? = some i) : ∃ b o, A = some ⟨b, o, none⟩ ∧ b < w.heap.size ∧ w.rangeAt b (o + pc * 260) (diC i) := by
  have hlt := (List.getElem?_eq_some_iff.1 hi).1
  obtain ⟨b, o, e, hb, hc⟩ := h.2 (by rw [codeD_len]; omega)
  refine ⟨b, o, e, hb, fun j u hu => ?_⟩
  have hj : j < 260 := by have := (List.getElem?_eq_some_iff.1 hu).1; rwa [di_len] at this
  rw [show o + pc * 260 + j = o + (pc * 260 + j) by omega]
  exact hc _ _ (by rw [codeD_get hi hj]; exact hu)
end Go.Proofs.YtdhmfgaiomfodaaDoor
namespace Go.Proofs.YtdhmfgaiomfodaaDoor
open Go Go.RowKit
attribute [local irreducible] wd

def OfR (w0 : World) (N : Nat) (c : List Ins) (e : Ending) (w' : World) : Prop := ∃ B c2, e = .returned (.slice B N c2) ∧ Rd w' 260 B N (codeD c) ∧ Ext w0 w'
def OfRA (w0 : World) (N : Nat) (c : List Ins) (e : Ending) (w' : World) : Prop := ∃ B c2, e = .returned (.slice B N c2) ∧ Rd w' 260 B N (codeD c) ∧ Ext w0 w' ∧ ∀ b o x, B = some ⟨b, o, x⟩ → w0.heap.size ≤ b
def OneI (b : Nat) (i : Ins) (v : Value) (w : World) : Prop := ∃ vb : Nat, v = .slice (some ⟨vb, 0, none⟩) 1 1 ∧ Blk w vb 47 (diC i) ∧ b ≤ vb
def OutI (B1 : Nat) (c : List Ins) (j : Nat) (v : Value) (w : World) : Prop := ∃ A9 c9, v = .slice A9 (j + 1) c9 ∧ w.ownsRow B1 47 260 v (j + 1) (codeD (c.take (j + 1)))
theorem di_ones (i : Ins) : ∀ u ∈ diC i, u.oneCell' = true := by
  have := di_one i
  rw [List.all_eq_true] at this
  exact this
theorem codeD_snoc {c : List Ins} {j : Nat} {i : Ins} (h : c[j]? = some i) : codeD (c.take (j + 1)) = codeD (c.take j) ++ diC i := by
  rw [List.take_add_one, h]
  unfold codeD
  rw [List.flatMap_append]
  simp
theorem rd_di {w : World} {g : Nat} {i : Ins} (h : Blk w g 47 (diC i)) : Rd w 260 (some ⟨g, 0, none⟩) 1 (diC i) := by
  have := Blk.rd (n := 1) (size := 260) h 0 (by rw [di_len]; omega)
  rw [List.drop_zero, List.take_of_length_le (by rw [di_len]; omega)] at this
  exact this
set_option maxHeartbeats 8000000 in
set_option maxRecDepth 20000 in
theorem law25OfAt (c : List Ins) (A : Option Addr) (cc : Nat) (N : Nat) (hN : c.length = N) (hN5 : N ≤ 100000) (w0 : World) (hR : Rd w0 8 A N (codeV c)) :
    Calls Tryd.prog 19 #[.slice A N cc] w0 fun e w' => OfRA w0 N c e w' := by
  have HR := Lib.hid hR
  clear hR
  go_enter Tryd.func19, Tryd.ntmps19
  go_upto_region 2 with fail
  have hown0 := own_empty w0 47 260
  have hx0 := Ext.new1 w0 (.cells #[] 47)
  obtain ⟨B1, hB1⟩ : ∃ B1, w0.heap.size = B1 := ⟨_, rfl⟩
  have HB1 := Lib.hid hB1
  rw [hB1] at hown0
  rw [hB1]
  have HO0 := Lib.hid hown0
  have HX0 := Lib.hid hx0
  clear hown0 hx0 hB1
  generalize w0.alloc (.cells #[] 47) = wa at *
  go_wp2
  go_loopg [3, 9] N (fun g ov iv wr => ∃ j : Nat, j ≤ N ∧ g = N - j ∧ iv = .int .i64 (j : Nat) ∧ wr.ownsRow B1 47 260 ov j (codeD (c.take j)) ∧ Ext w0 wr)
  case atStart => exact ⟨0, by omega, rfl, rfl, HO0.out, HX0.out⟩
  case round =>
    obtain ⟨jq, hj4, rfl, rfl, hown, hx⟩ := hrel
    by_cases hlt : jq < N
    · obtain ⟨xi, hxi⟩ : ∃ xi, c[jq]? = some xi := ⟨_, List.getElem?_eq_getElem (show jq < c.length from hN ▸ hlt)⟩
      obtain ⟨bA, oA, rfl, hcell⟩ := code_cellsN (c := c) (by rw [hN]; exact HR.out.keep hx) hxi
      have c0 : wr.cell? ⟨bA, oA + jq * 8, none⟩ = some (.int .i64 xi.op) := hcell 0 _ rfl
      have c1 : wr.cell? ⟨bA, oA + jq * 8 + 1, none⟩ = some (.int .i64 xi.x) := hcell 1 _ rfl
      have c2 : wr.cell? ⟨bA, oA + jq * 8 + 2, none⟩ = some (.int .i64 xi.y) := hcell 2 _ rfl
      have c3 : wr.cell? ⟨bA, oA + jq * 8 + 3, none⟩ = some (.int .i64 xi.n) := hcell 3 _ rfl
      have c4 : wr.cell? ⟨bA, oA + jq * 8 + 4, none⟩ = some (.int .u64 (wd xi.set 0 : Nat)) := hcell 4 _ rfl
      have c5 : wr.cell? ⟨bA, oA + jq * 8 + 5, none⟩ = some (.int .u64 (wd xi.set 1 : Nat)) := hcell 5 _ rfl
      have c6 : wr.cell? ⟨bA, oA + jq * 8 + 6, none⟩ = some (.int .u64 (wd xi.set 2 : Nat)) := hcell 6 _ rfl
      have c7 : wr.cell? ⟨bA, oA + jq * 8 + 7, none⟩ = some (.int .u64 (wd xi.set 3 : Nat)) := hcell 7 _ rfl
      have hlt' : (jq : Int) < (N : Int) := by omega
      have hw2 : IntKind.i64.wrap ((jq : Int) + 1) = (jq : Int) + 1 := wrap_id (by omega) (by omega)
      have HW2 := Lib.hid hw2
      have HTK := Lib.hid (codeD_snoc hxi)
      have HLT := Lib.hid (And.intro hlt hN5)
      have HOWN := Lib.hid hown
      have HXR := Lib.hid hx
      obtain ⟨A', c', rfl, _, _, _⟩ := own_rd hown
      clear hcell hxi hlt hown hx hj4 hw2
      go_upto_region 5 with fail
      have hal := Ext.new1 wr (.cells (insV xi).toArray 64)
      obtain ⟨gx, hgx⟩ : ∃ gx, wr.heap.size = gx := ⟨_, rfl⟩
      have HXI := Lib.hid (Blk.newA (w := wr) hgx 64 (insV xi))
      have HOW := Lib.hid (own_ext HOWN.out hal)
      have HXB := Lib.hid (Ext.trans HXR.out hal)
      have HGX := Lib.hid (show ∀ y ∈ (Value.slice A' jq c').ownBlock.toList, y < gx from fun y hy => by have := (HOWN.out.lt y (by simpa using hy)).2; omega)
      unfold insV at hal HXI HOW HXB
      rw [hgx]
      clear hal hgx c0 c1 c2 c3 c4 c5 c6 c7
      generalize wr.alloc (.cells #[.int .i64 xi.op, .int .i64 xi.x, .int .i64 xi.y, .int .i64 xi.n, .int .u64 (wd xi.set 0 : Nat), .int .u64 (wd xi.set 1 : Nat), .int .u64 (wd xi.set 2 : Nat), .int .u64 (wd xi.set 3 : Nat)] 64) = wb at *
      have hgs : gx < wb.heap.size := Blk.lt HXI.out
      have HBW := Lib.hid (show B1 ≤ wb.heap.size from by have := HB1.out; have := HXB.out.size; omega)
      refine wp_region_dagQ (X := fun j => if j = 14 then (Value.slice A' jq c').ownBlock.toList else []) (XX := ((Value.slice A' jq c').ownBlock.toList)) (late := fun j => if j = 14 then [15] else []) (Pre := fun i w => (i = 14 → w.ownsRow B1 47 260 (.slice A' jq c') jq (codeD (c.take jq))) ∧ True) (w0 := wb) (Φ := fun i v w => match i with | 0 => (v = .slice A' jq c') | 1 => (v = .pointer (some ⟨gx, 0, none⟩)) | 2 => (v = .int .i64 xi.op) | 3 => (v = .pointer (some ⟨gx, 1, none⟩)) | 4 => (v = .int .i64 xi.x) | 5 => (v = .pointer (some ⟨gx, 2, none⟩)) | 6 => (v = .int .i64 xi.y) | 7 => (v = .pointer (some ⟨gx, 3, none⟩)) | 8 => (v = .int .i64 xi.n) | 9 => (v = .pointer (some ⟨gx, 4, none⟩)) | 10 => (v = .agg #[.int .u64 (wd xi.set 0 : Nat), .int .u64 (wd xi.set 1 : Nat), .int .u64 (wd xi.set 2 : Nat), .int .u64 (wd xi.set 3 : Nat)]) | 11 => (v = bp xi.set) | 12 => (v = .agg (diC xi).toArray) | 13 => (OneI wb.heap.size xi v w) | 14 => (OutI B1 c jq v w) | 15 => (OutI B1 c jq v w) | _ => True) (show Tryd.prog.follows .mixedOrders = true from Checked.mixed Tryd.checked) 30 rfl (by decide +kernel) ?_ ?_ ?_ ?_ ?_ ⟨?_, ?_, ?_, ?_, ?_, ?_, ?_, ?_, ?_, ?_, ?_, ?_, ?_, ?_, ?_, ?_, trivial⟩ ?_
      · intro j x hx
        by_cases hj14 : j = 14
        · subst hj14; have hx' : x ∈ (Value.slice A' jq c').ownBlock.toList := hx; first | exact hx' | (rw [List.mem_append]; first | exact .inl hx' | exact .inr hx')
        simp [hj14] at hx
      · intro j
        by_cases hj14 : j = 14
        · subst hj14; decide +kernel
        simp [hj14, lateOk]
      · intro i
        exact ⟨fun _ => own_ext HOW.out ((Below.refl _ _).drew), trivial⟩
      · intro i j w w' hij hnl h hc
        refine ⟨?_, trivial⟩
        · intro hi
          subst hi
          have hp := h.1 rfl
          have hc' : Chg [] w w' := hc.mono (fun x hx => by
            by_cases hj14 : j = 14
            · exact absurd hj14 (by omega)
            simp [hj14] at hx)
          exact own_chg hp hc' (by simp)
      · intro i j v w w' hij hla h hc
        by_cases hj14 : j = 14
        · subst hj14
          have hc' : Chg (Value.slice A' jq c').ownBlock.toList w w' := hc
          match i, hij, hla, h with
          | 0, _, _, h => exact h
          | 1, _, _, h => exact h
          | 2, _, _, h => exact h
          | 3, _, _, h => exact h
          | 4, _, _, h => exact h
          | 5, _, _, h => exact h
          | 6, _, _, h => exact h
          | 7, _, _, h => exact h
          | 8, _, _, h => exact h
          | 9, _, _, h => exact h
          | 10, _, _, h => exact h
          | 11, _, _, h => exact h
          | 12, _, _, h => exact h
          | 13, _, _, h => exact (by obtain ⟨vb, g1, g2, g3⟩ := h; exact ⟨vb, g1, g2.chg hc' (fun hm => by have := HGX.out vb hm; omega), g3⟩)
          | 14, hij, _, _ => exact absurd rfl hij
          | 15, _, hla, _ => exact absurd (by decide) hla
          | _ + 16, _, _, _ => trivial
        have hc0 : Chg [] w w' := by simpa [hj14] using hc
        have hE : Ext w w' := hc0.ext (by simp)
        match i, h with
        | 0, h => exact h
        | 1, h => exact h
        | 2, h => exact h
        | 3, h => exact h
        | 4, h => exact h
        | 5, h => exact h
        | 6, h => exact h
        | 7, h => exact h
        | 8, h => exact h
        | 9, h => exact h
        | 10, h => exact h
        | 11, h => exact h
        | 12, h => exact h
        | 13, h => exact (by obtain ⟨vb, g1, g2, g3⟩ := h; exact ⟨vb, g1, g2.keep hE, g3⟩)
        | 14, h => exact (by obtain ⟨A9, c9, g1, g2⟩ := h; exact ⟨A9, c9, g1, own_ext g2 hE⟩)
        | 15, h => exact (by obtain ⟨A9, c9, g1, g2⟩ := h; exact ⟨A9, c9, g1, own_ext g2 hE⟩)
        | _ + 16, _ => trivial
      ·
        intro ac wx hE hP hsz hdf h
        have e3 : ac.tmps[3]? = some (.slice A' jq c') := by obtain ⟨v, h1, h2⟩ := h 3 (by decide +kernel); exact h1.trans h2.symm
        clear h hsz hdf
        go_wp2
        exact ⟨_, rfl, rfl, Chg.refl _ _⟩
      ·
        intro ac wx hE hP hsz hdf h
        have e5 : ac.tmps[5]? = some (.pointer (some ⟨gx, 0, none⟩)) := by obtain ⟨v, h1, h2⟩ := h 5 (by decide +kernel); exact h1.trans h2.symm
        clear h hsz hdf
        go_wp2
        exact ⟨_, rfl, rfl, Chg.refl _ _⟩
      ·
        intro ac wx hE hP hsz hdf h
        have e14 : ac.tmps[14]? = some (.pointer (some ⟨gx, 0, none⟩)) := by obtain ⟨v, h1, h2⟩ := h 14 (by decide +kernel); rw [h1]; exact congrArg some h2
        clear h hsz hdf
        have hb := HXI.out.chg hE (fun hm => by have := HGX.out gx hm; omega); have y0 := hb.cell 0; have y1 := hb.cell 1; have y2 := hb.cell 2; have y3 := hb.cell 3; have y4 := hb.cell 4; have y5 := hb.cell 5; have y6 := hb.cell 6; have y7 := hb.cell 7
        go_wp2
        exact ⟨_, rfl, rfl, Chg.refl _ _⟩
      ·
        intro ac wx hE hP hsz hdf h
        have e5 : ac.tmps[5]? = some (.pointer (some ⟨gx, 0, none⟩)) := by obtain ⟨v, h1, h2⟩ := h 5 (by decide +kernel); exact h1.trans h2.symm
        clear h hsz hdf
        go_wp2
        exact ⟨_, rfl, rfl, Chg.refl _ _⟩
      ·
        intro ac wx hE hP hsz hdf h
        have e16 : ac.tmps[16]? = some (.pointer (some ⟨gx, 1, none⟩)) := by obtain ⟨v, h1, h2⟩ := h 16 (by decide +kernel); rw [h1]; exact congrArg some h2
        clear h hsz hdf
        have hb := HXI.out.chg hE (fun hm => by have := HGX.out gx hm; omega); have y0 := hb.cell 0; have y1 := hb.cell 1; have y2 := hb.cell 2; have y3 := hb.cell 3; have y4 := hb.cell 4; have y5 := hb.cell 5; have y6 := hb.cell 6; have y7 := hb.cell 7
        go_wp2
        exact ⟨_, rfl, rfl, Chg.refl _ _⟩
      ·
        intro ac wx hE hP hsz hdf h
        have e5 : ac.tmps[5]? = some (.pointer (some ⟨gx, 0, none⟩)) := by obtain ⟨v, h1, h2⟩ := h 5 (by decide +kernel); exact h1.trans h2.symm
        clear h hsz hdf
        go_wp2
        exact ⟨_, rfl, rfl, Chg.refl _ _⟩
      ·
        intro ac wx hE hP hsz hdf h
        have e18 : ac.tmps[18]? = some (.pointer (some ⟨gx, 2, none⟩)) := by obtain ⟨v, h1, h2⟩ := h 18 (by decide +kernel); rw [h1]; exact congrArg some h2
        clear h hsz hdf
        have hb := HXI.out.chg hE (fun hm => by have := HGX.out gx hm; omega); have y0 := hb.cell 0; have y1 := hb.cell 1; have y2 := hb.cell 2; have y3 := hb.cell 3; have y4 := hb.cell 4; have y5 := hb.cell 5; have y6 := hb.cell 6; have y7 := hb.cell 7
        go_wp2
        exact ⟨_, rfl, rfl, Chg.refl _ _⟩
      ·
        intro ac wx hE hP hsz hdf h
        have e5 : ac.tmps[5]? = some (.pointer (some ⟨gx, 0, none⟩)) := by obtain ⟨v, h1, h2⟩ := h 5 (by decide +kernel); exact h1.trans h2.symm
        clear h hsz hdf
        go_wp2
        exact ⟨_, rfl, rfl, Chg.refl _ _⟩
      ·
        intro ac wx hE hP hsz hdf h
        have e20 : ac.tmps[20]? = some (.pointer (some ⟨gx, 3, none⟩)) := by obtain ⟨v, h1, h2⟩ := h 20 (by decide +kernel); rw [h1]; exact congrArg some h2
        clear h hsz hdf
        have hb := HXI.out.chg hE (fun hm => by have := HGX.out gx hm; omega); have y0 := hb.cell 0; have y1 := hb.cell 1; have y2 := hb.cell 2; have y3 := hb.cell 3; have y4 := hb.cell 4; have y5 := hb.cell 5; have y6 := hb.cell 6; have y7 := hb.cell 7
        go_wp2
        exact ⟨_, rfl, rfl, Chg.refl _ _⟩
      ·
        intro ac wx hE hP hsz hdf h
        have e5 : ac.tmps[5]? = some (.pointer (some ⟨gx, 0, none⟩)) := by obtain ⟨v, h1, h2⟩ := h 5 (by decide +kernel); exact h1.trans h2.symm
        clear h hsz hdf
        go_wp2
        exact ⟨_, rfl, rfl, Chg.refl _ _⟩
      ·
        intro ac wx hE hP hsz hdf h
        have e22 : ac.tmps[22]? = some (.pointer (some ⟨gx, 4, none⟩)) := by obtain ⟨v, h1, h2⟩ := h 22 (by decide +kernel); rw [h1]; exact congrArg some h2
        clear h hsz hdf
        have hb := HXI.out.chg hE (fun hm => by have := HGX.out gx hm; omega); have y0 := hb.cell 0; have y1 := hb.cell 1; have y2 := hb.cell 2; have y3 := hb.cell 3; have y4 := hb.cell 4; have y5 := hb.cell 5; have y6 := hb.cell 6; have y7 := hb.cell 7
        go_wp2
        exact ⟨_, rfl, rfl, Chg.refl _ _⟩
      ·
        intro ac wx hE hP hsz hdf h
        have e23 : ac.tmps[23]? = some (.agg #[.int .u64 (wd xi.set 0 : Nat), .int .u64 (wd xi.set 1 : Nat), .int .u64 (wd xi.set 2 : Nat), .int .u64 (wd xi.set 3 : Nat)]) := by obtain ⟨v, h1, h2⟩ := h 23 (by decide +kernel); rw [h1]; exact congrArg some h2
        clear h hsz hdf
        go_wp2_with ((go_at_call 50; refine (refOf xi.set wx).mono ?_; rintro e w2 ⟨rfl, hx2⟩))
        exact ⟨_, rfl, rfl, .of_ext hx2⟩
      ·
        intro ac wx hE hP hsz hdf h
        have e15 : ac.tmps[15]? = some (.int .i64 xi.op) := by obtain ⟨v, h1, h2⟩ := h 15 (by decide +kernel); rw [h1]; exact congrArg some h2
        have e17 : ac.tmps[17]? = some (.int .i64 xi.x) := by obtain ⟨v, h1, h2⟩ := h 17 (by decide +kernel); rw [h1]; exact congrArg some h2
        have e19 : ac.tmps[19]? = some (.int .i64 xi.y) := by obtain ⟨v, h1, h2⟩ := h 19 (by decide +kernel); rw [h1]; exact congrArg some h2
        have e21 : ac.tmps[21]? = some (.int .i64 xi.n) := by obtain ⟨v, h1, h2⟩ := h 21 (by decide +kernel); rw [h1]; exact congrArg some h2
        have e24 : ac.tmps[24]? = some (bp xi.set) := by obtain ⟨v, h1, h2⟩ := h 24 (by decide +kernel); rw [h1]; exact congrArg some h2
        clear h hsz hdf
        refine build_di rfl (.tmp 15) (.tmp 17) (.tmp 19) (.tmp 21) (.tmp 24) rfl (i := xi) ?_ ?_ ?_ ?_ ?_ ?_
        · simp [Act.eval, e15]
        · simp [Act.eval, e17]
        · simp [Act.eval, e19]
        · simp [Act.eval, e21]
        · simp [Act.eval, e24]
        · go_wp2; exact ⟨_, rfl, rfl, Chg.refl _ _⟩
      ·
        intro ac wx hE hP hsz hdf h
        have e25 : ac.tmps[25]? = some (.agg (diC xi).toArray) := by obtain ⟨v, h1, h2⟩ := h 25 (by decide +kernel); rw [h1]; exact congrArg some h2
        have hsz8 := hE.size
        clear h hsz hdf
        refine mk_di rfl (.tmp 25) rfl (di_len xi) ?_ ?_
        · simp [Act.eval, e25]
        · go_wp2; exact ⟨_, rfl, ⟨_, rfl, Blk.newL wx 47 (diC xi), hsz8⟩, .of_ext (Ext.new1 _ _)⟩
      ·
        intro ac wx hE hP hsz hdf h
        have e13 : ac.tmps[13]? = some (.slice A' jq c') := by obtain ⟨v, h1, h2⟩ := h 13 (by decide +kernel); rw [h1]; exact congrArg some h2
        obtain ⟨v26, e26, s26⟩ : ∃ v, ac.tmps[26]? = some v ∧ (OneI wb.heap.size xi v wx) := h 26 (by decide +kernel)
        clear h hsz hdf
        obtain ⟨vb, rfl, hvb8, hvb9⟩ := s26; have ho8 := hP.1 rfl; have hsz8 := hE.size
        go_wp2_with ((refine wpList_app2 elemDi rfl (.tmp 13) (.tmp 26) rfl (v := .slice A' jq c') (n := jq) (xs := codeD (c.take jq)) (by simp [Act.eval, e13]) ho8 (by have := HBW.out; omega) (A := some ⟨vb, 0, none⟩) (m := 1) (c := 1) (news := diC xi) (by simp [Act.eval, e26]) (rd_di hvb8) (di_ones xi) (by have := HLT.out; omega) (by have := HLT.out; unfold maxLen; omega) ?_; intro v9 w9 hown9 hgr9 _ _))
        obtain ⟨A9, c9, e9, _, _, _⟩ := own_rd hown9; exact ⟨_, rfl, ⟨A9, c9, e9, by rw [← HTK.out] at hown9; exact hown9⟩, ⟨hgr9.by_.os, hgr9.by_.tape, hgr9.by_.output, hgr9.by_.size, fun k hk hkn => hgr9.by_.block k hk (fun e => hkn (by simp [← e]))⟩⟩
      ·
        intro ac wx hE hP hsz hdf h
        obtain ⟨v27, e27, s27⟩ : ∃ v, ac.tmps[27]? = some v ∧ (OutI B1 c jq v wx) := h 27 (by decide +kernel)
        clear h hsz hdf
        obtain ⟨A9, c9, rfl, ho9⟩ := s27
        go_wp2
        exact ⟨_, rfl, ⟨A9, c9, rfl, ho9⟩, Chg.refl _ _⟩
      · intro ac w9 hE hsz hdf h hrest
        obtain ⟨v0, s0, g0⟩ := h 0 _ rfl
        have e0 := g0 13 rfl
        obtain rfl : v0 = .slice A' jq c' := s0
        obtain ⟨v1, s1, g1⟩ := h 1 _ rfl
        have e1 := g1 14 rfl
        obtain rfl : v1 = .pointer (some ⟨gx, 0, none⟩) := s1
        obtain ⟨v2, s2, g2⟩ := h 2 _ rfl
        have e2 := g2 15 rfl
        obtain rfl : v2 = .int .i64 xi.op := s2
        obtain ⟨v3, s3, g3⟩ := h 3 _ rfl
        have e3 := g3 16 rfl
        obtain rfl : v3 = .pointer (some ⟨gx, 1, none⟩) := s3
        obtain ⟨v4, s4, g4⟩ := h 4 _ rfl
        have e4 := g4 17 rfl
        obtain rfl : v4 = .int .i64 xi.x := s4
        obtain ⟨v5, s5, g5⟩ := h 5 _ rfl
        have e5 := g5 18 rfl
        obtain rfl : v5 = .pointer (some ⟨gx, 2, none⟩) := s5
        obtain ⟨v6, s6, g6⟩ := h 6 _ rfl
        have e6 := g6 19 rfl
        obtain rfl : v6 = .int .i64 xi.y := s6
        obtain ⟨v7, s7, g7⟩ := h 7 _ rfl
        have e7 := g7 20 rfl
        obtain rfl : v7 = .pointer (some ⟨gx, 3, none⟩) := s7
        obtain ⟨v8, s8, g8⟩ := h 8 _ rfl
        have e8 := g8 21 rfl
        obtain rfl : v8 = .int .i64 xi.n := s8
        obtain ⟨v9, s9, g9⟩ := h 9 _ rfl
        have e9 := g9 22 rfl
        obtain rfl : v9 = .pointer (some ⟨gx, 4, none⟩) := s9
        obtain ⟨v10, s10, g10⟩ := h 10 _ rfl
        have e10 := g10 23 rfl
        obtain rfl : v10 = .agg #[.int .u64 (wd xi.set 0 : Nat), .int .u64 (wd xi.set 1 : Nat), .int .u64 (wd xi.set 2 : Nat), .int .u64 (wd xi.set 3 : Nat)] := s10
        obtain ⟨v11, s11, g11⟩ := h 11 _ rfl
        have e11 := g11 24 rfl
        obtain rfl : v11 = bp xi.set := s11
        obtain ⟨v12, s12, g12⟩ := h 12 _ rfl
        have e12 := g12 25 rfl
        obtain rfl : v12 = .agg (diC xi).toArray := s12
        obtain ⟨v13, s13, g13⟩ := h 13 _ rfl
        have e13 := g13 26 rfl
        replace s13 : OneI wb.heap.size xi v13 w9 := s13
        obtain ⟨v14, s14, g14⟩ := h 14 _ rfl
        have e14 := g14 27 rfl
        replace s14 : OutI B1 c jq v14 w9 := s14
        obtain ⟨v15, s15, g15⟩ := h 15 _ rfl
        have e15 := g15 3 rfl
        replace s15 : OutI B1 c jq v15 w9 := s15
        have ha := act_of [(13, .slice A' jq c'), (14, .pointer (some ⟨gx, 0, none⟩)), (15, .int .i64 xi.op), (16, .pointer (some ⟨gx, 1, none⟩)), (17, .int .i64 xi.x), (18, .pointer (some ⟨gx, 2, none⟩)), (19, .int .i64 xi.y), (20, .pointer (some ⟨gx, 3, none⟩)), (21, .int .i64 xi.n), (22, .pointer (some ⟨gx, 4, none⟩)), (23, .agg #[.int .u64 (wd xi.set 0 : Nat), .int .u64 (wd xi.set 1 : Nat), .int .u64 (wd xi.set 2 : Nat), .int .u64 (wd xi.set 3 : Nat)]), (24, bp xi.set), (25, .agg (diC xi).toArray), (26, v13), (27, v14), (3, v15)] rfl hsz hdf (by intro p hp; simp only [List.mem_cons, List.not_mem_nil, or_false] at hp; rcases hp with rfl | rfl | rfl | rfl | rfl | rfl | rfl | rfl | rfl | rfl | rfl | rfl | rfl | rfl | rfl | rfl <;> first | exact e0 | exact e1 | exact e2 | exact e3 | exact e4 | exact e5 | exact e6 | exact e7 | exact e8 | exact e9 | exact e10 | exact e11 | exact e12 | exact e13 | exact e14 | exact e15) hrest
        clear h hrest hsz hdf e0 e1 e2 e3 e4 e5 e6 e7 e8 e9 e10 e11 e12 e13 e14 e15 g0 g1 g2 g3 g4 g5 g6 g7 g8 g9 g10 g11 g12 g13 g14 g15
        subst ha
        simp only [List.foldl_cons, List.foldl_nil, Act.put, List.setIfInBounds_toArray, List.set_cons_succ, List.set_cons_zero]
        obtain ⟨A9, c9, rfl, ho9⟩ := s15
        have HX9 := Lib.hid (show Ext w0 w9 from ((Chg.of_ext HXB.out).trans hE).ext (fun y hy => by have := (HOWN.out.lt y (by simpa using hy)).1; have := HB1.out; omega))
        have HO9 := Lib.hid ho9
        have hw2 := HW2.out
        clear ho9 hE s13 s14
        go_wp2
        go_roundg (N - (jq + 1))
        case measure => omega
        case rel => exact ⟨jq + 1, by have := HLT.out; omega, rfl, by go_num, HO9.out, HX9.out⟩
    · obtain rfl : jq = N := by omega
      have hlt' : ¬ (jq : Int) < (jq : Int) := by omega
      have HXR := Lib.hid hx
      obtain ⟨A', c', rfl, _, _, hrd⟩ := own_rd hown
      have HRD := Lib.hid hrd
      have HLO := Lib.hid (show ∀ b o x, A' = some ⟨b, o, x⟩ → w0.heap.size ≤ b from fun b o x e => by subst e; have := (hown.lt b rfl).1; have := HB1.out; omega)
      clear hown hx hrd
      go_wp2
      go_ret
      refine ⟨A', c', rfl, ?_, HXR.out, HLO.out⟩
      have h2 := HRD.out
      rw [List.take_of_length_le (by rw [hN]; exact Nat.le_refl _)] at h2
      exact h2
theorem law25Of (c : List Ins) (A : Option Addr) (cc : Nat) (N : Nat) (hN : c.length = N) (hN5 : N ≤ 100000) (w0 : World) (hR : Rd w0 8 A N (codeV c)) :
    Calls Tryd.prog 19 #[.slice A N cc] w0 fun e w' => OfR w0 N c e w' :=
  (law25OfAt c A cc N hN hN5 w0 hR).mono fun _ _ ⟨B, c2, h1, h2, h3, _⟩ => ⟨B, c2, h1, h2, h3⟩
end Go.Proofs.YtdhmfgaiomfodaaDoor
namespace Go.Proofs.YtdhmfgaiomfodaaDoor
open Go Go.RowKit
attribute [local irreducible] wd

structure WP where
  Ac : Option Addr
  cc : Nat
  c : List Ins
  l : List UInt8
  base : Int
  gw : Nat
  gd : Nat
  G : Nat
def WP.K (R : WP) : Nat := (R.l.length + 1) * R.c.length
def wkC (R : WP) : List Value := [.slice R.Ac R.c.length R.cc, .string ⟨R.l.toArray⟩, .int .i64 R.base, .slice (some ⟨R.gd, 0, none⟩) R.K R.K]
def deadV (D : D2) (N K : Nat) : List Value := (List.range K).map fun j => .bool (D (j / N) (j % N))
theorem deadV_get {D : D2} {N K a p : Nat} (hp : p < N) (h : a * N + p < K) : (deadV D N K)[a * N + p]? = some (.bool (D a p)) := by
  unfold deadV
  rw [List.getElem?_map, List.getElem?_range h]
  simp only [Option.map_some]
  rw [show (a * N + p) / N = a from by rw [Nat.mul_comm, Nat.mul_add_div (by omega), Nat.div_eq_of_lt hp]; rfl, show (a * N + p) % N = p from by rw [Nat.mul_comm, Nat.mul_add_mod, Nat.mod_eq_of_lt hp]]
theorem deadV_set {D : D2} {N K a p : Nat} (hp : p < N) (h : a * N + p < K) : (deadV D N K).set (a * N + p) (.bool true) = deadV (insD D a p) N K := by
  apply List.ext_getElem?
  intro j
  unfold deadV
  rw [List.getElem?_set]
  by_cases hj : a * N + p = j
  · subst hj
    rw [if_pos rfl, if_pos (by simpa using h), List.getElem?_map, List.getElem?_range h]
    simp only [Option.map_some]
    rw [show (a * N + p) / N = a from by rw [Nat.mul_comm, Nat.mul_add_div (by omega), Nat.div_eq_of_lt hp]; rfl, show (a * N + p) % N = p from by rw [Nat.mul_comm, Nat.mul_add_mod, Nat.mod_eq_of_lt hp]]
    unfold insD
    simp
  · rw [if_neg hj]
    by_cases hk : j < K
    · rw [List.getElem?_map, List.getElem?_map, List.getElem?_range hk]
      simp only [Option.map_some, Option.some.injEq, Value.bool.injEq]
      unfold insD
      have : ((j / N == a) && (j % N == p)) = false := by
        cases h1 : (j / N == a) && (j % N == p)
        · rfl
        · rw [Bool.and_eq_true, beq_iff_eq, beq_iff_eq] at h1
          have := Nat.div_add_mod j N
          rw [h1.1, h1.2, Nat.mul_comm] at this
          exact absurd this hj
      rw [this, Bool.or_false]
    · rw [List.getElem?_eq_none (by simpa using hk), List.getElem?_eq_none (by simpa using hk)]
def unD (D : D2) (N K : Nat) : Nat := ((List.range K).filter fun j => !D (j / N) (j % N)).length
theorem unD_ins {D : D2} {N K a p : Nat} (hp : p < N) (h : a * N + p < K) (hD : D a p = false) : unD (insD D a p) N K < unD D N K := by
  refine (filter_less fun x _ hx => ?_).2 ⟨a * N + p, List.mem_range.2 h, ?_, ?_⟩
  · unfold insD at hx
    cases h1 : D (x / N) (x % N)
    · rfl
    · rw [h1] at hx; simp at hx
  · rw [show (a * N + p) / N = a from by rw [Nat.mul_comm, Nat.mul_add_div (by omega), Nat.div_eq_of_lt hp]; rfl, show (a * N + p) % N = p from by rw [Nat.mul_comm, Nat.mul_add_mod, Nat.mod_eq_of_lt hp], hD]; rfl
  · rw [show (a * N + p) / N = a from by rw [Nat.mul_comm, Nat.mul_add_div (by omega), Nat.div_eq_of_lt hp]; rfl, show (a * N + p) % N = p from by rw [Nat.mul_comm, Nat.mul_add_mod, Nat.mod_eq_of_lt hp]]
    unfold insD
    simp
theorem unD_mono {D D' : D2} {N K : Nat} (h : ∀ a p, D a p = true → D' a p = true) : unD D' N K ≤ unD D N K := by
  refine (filter_less fun x _ hx => ?_).1
  cases h1 : D (x / N) (x % N)
  · rfl
  · rw [h _ _ h1] at hx; simp at hx
theorem insD_mono (D : D2) (a p : Nat) : ∀ a' p', D a' p' = true → insD D a p a' p' = true := fun a' p' h => by unfold insD; rw [h]; rfl
theorem wk_mono {c : List Ins} {txt : List UInt8} {base : Int} {D D' : D2} {pc at_ : Nat} {k : List Int} {r : Option (List Int)} (h : Wk c txt base D pc at_ k D' r) : ∀ a p, D a p = true → D' a p = true := by
  induction h with
  | seen _ => exact fun _ _ h => h
  | stop _ _ _ _ => exact insD_mono _ _ _
  | byte _ _ _ _ _ _ ih => exact fun a p h => ih a p (insD_mono _ _ _ a p h)
  | jump _ _ _ _ ih => exact fun a p h => ih a p (insD_mono _ _ _ a p h)
  | left _ _ _ _ ih => exact fun a p h => ih a p (insD_mono _ _ _ a p h)
  | right _ _ _ _ _ ih1 ih2 => exact fun a p h => ih2 a p (ih1 a p (insD_mono _ _ _ a p h))
  | save _ _ _ _ ih => exact fun a p h => ih a p (insD_mono _ _ _ a p h)
  | fin _ _ _ => exact insD_mono _ _ _

structure WkOK (R : WP) (w : World) (D : D2) : Prop where
  blk : Blk w R.gw 106 (wkC R)
  code : Rd w 260 R.Ac R.c.length (codeD R.c)
  cne : ∀ b o v, R.Ac = some ⟨b, o, v⟩ → b ≠ R.gd
  ne : R.gw ≠ R.gd
  dead : Blk w R.gd 4 (deadV D R.c.length R.K)
theorem WkOK.keep {R : WP} {w w' : World} {D : D2} (h : WkOK R w D) (hx : Ext w w') : WkOK R w' D := ⟨h.blk.keep hx, h.code.keep hx, h.cne, h.ne, h.dead.keep hx⟩
theorem WkOK.chg {R : WP} {w w' : World} {D D' : D2} (h : WkOK R w D) (hc : Chg [R.gd] w w') (hd : Blk w' R.gd 4 (deadV D' R.c.length R.K)) : WkOK R w' D' :=
  ⟨h.blk.chg hc (by have := h.ne; simpa using this), h.code.chg hc (fun _ b o v e => by have := h.cne b o v e; simpa using this), h.cne, h.ne, hd⟩
def CapsOK (R : WP) (w : World) (A : Option Addr) (n : Nat) (k : List Int) : Prop := Rd w 1 A n (intsV k) ∧ ∀ b o v, A = some ⟨b, o, v⟩ → b ≠ R.gd
theorem CapsOK.chg {R : WP} {w w' : World} {A : Option Addr} {n : Nat} {k : List Int} (h : CapsOK R w A n k) (hc : Chg [R.gd] w w') : CapsOK R w' A n k := ⟨h.1.chg hc (fun _ b o v e => by have := h.2 b o v e; simpa using this), h.2⟩
theorem CapsOK.keep {R : WP} {w w' : World} {A : Option Addr} {n : Nat} {k : List Int} (h : CapsOK R w A n k) (hx : Ext w w') : CapsOK R w' A n k := ⟨h.1.keep hx, h.2⟩
def WalkR (R : WP) (D : D2) (pc at_ : Nat) (k : List Int) (w : World) (e : Ending) (w' : World) : Prop :=
  ∃ D' r A n c, e = .returned (.tuple #[.slice A n c, .bool r.isSome]) ∧ Wk R.c R.l R.base D pc at_ k D' r ∧ Blk w' R.gd 4 (deadV D' R.c.length R.K) ∧ Chg [R.gd] w w' ∧ ∀ q, r = some q → CapsOK R w' A n q

set_option maxHeartbeats 8000000 in
set_option maxRecDepth 20000 in
theorem refWalk (R : WP) (hR : RightC R.c R.G) (hl : R.l.length ≤ 1000) (hb : 0 ≤ R.base ∧ R.base ≤ 10000000000000) : ∀ n (D : D2) (pc at_ : Nat) (k : List Int) (A : Option Addr) (nk ck : Nat) (w : World), unD D R.c.length R.K < n → pc < R.c.length → at_ ≤ R.l.length → k.length = 2 * R.G → WkOK R w D → CapsOK R w A nk k →
    Calls Tryd.prog 55 #[.pointer (some ⟨R.gw, 0, none⟩), .int .i64 (pc : Nat), .int .i64 (at_ : Nat), .slice A nk ck] w fun e w' => WalkR R D pc at_ k w e w' := by
  intro n
  induction n with
  | zero => intro D pc at_ k A nk ck w h; omega
  | succ n ih =>
    intro D pc at_ k A nk ck w hu hpc hat hk hW hC
    obtain ⟨N, hN⟩ : ∃ N, R.c.length = N := ⟨_, rfl⟩
    obtain ⟨K, hK⟩ : ∃ K, R.K = K := ⟨_, rfl⟩
    obtain ⟨P, hP⟩ : ∃ P, at_ * N = P := ⟨_, rfl⟩
    have hN4 := hR.most
    have hJ : P + pc < K := by
      rw [← hK, ← hP]
      unfold WP.K
      rw [hN] at hpc ⊢
      have := Nat.mul_le_mul_right N hat
      rw [Nat.add_mul]
      omega
    have hP2 : P ≤ 400000 := by
      rw [← hP]
      have := Nat.mul_le_mul hat (show N ≤ 400 by omega)
      have := Nat.mul_le_mul_right 400 hl
      omega
    have HIH := Lib.hid ih
    have HU := Lib.hid hu
    have HPC := Lib.hid hpc
    have HAT := Lib.hid hat
    have HK := Lib.hid hk
    have HW := Lib.hid hW
    have HC := Lib.hid hC
    have HN := Lib.hid hN
    have HKK := Lib.hid hK
    have HP := Lib.hid hP
    have HJ := Lib.hid hJ
    have HJ2 := Lib.hid (show at_ * R.c.length + pc < R.K by rw [hN, hK, hP]; exact hJ)
    have HN4 := Lib.hid (show N ≤ 400 by omega)
    have HL := Lib.hid hl
    have HP2 := Lib.hid hP2
    have w0 : w.cell? ⟨R.gw, 0, none⟩ = some (.slice R.Ac N R.cc) := by rw [← hN]; exact hW.blk.cell 0
    have w3 : w.cell? ⟨R.gw, 3, none⟩ = some (.slice (some ⟨R.gd, 0, none⟩) K K) := by rw [← hK]; exact hW.blk.cell 3
    have m1 : IntKind.i64.wrap ((at_ : Int) * (N : Int)) = (P : Int) := by rw [← hP, wrap_id (by rw [← Int.natCast_mul, hP]; omega) (by rw [← Int.natCast_mul, hP]; omega), Int.natCast_mul]
    have m2 : IntKind.i64.wrap ((P : Int) + (pc : Int)) = ((P + pc : Nat) : Int) := by rw [wrap_id (by omega) (by omega)]; omega
    have hd0 : w.cell? ⟨R.gd, P + pc, none⟩ = some (.bool (D at_ pc)) := by
      rw [hW.dead.cell, ← hP, ← hN, deadV_get hpc (by rw [hN, hP, hK]; exact hJ)]
    have hJi : ((P + pc : Nat) : Int) < (K : Int) := by omega
    cases hD : D at_ pc
    rotate_left
    · rw [hD] at hd0
      have HD := Lib.hid hD
      clear hu hpc hat hk hW hC hN hK hP hP2 hJ ih hN4 hl hD
      go_enter Tryd.func55, Tryd.ntmps55
      go_upto_region 1 with fail
      go_quiet (fail)
      go_wp2
      go_ret2
      exact ⟨D, none, none, 0, 0, rfl, .seen HD.out, HW.out.dead.keep (Ext.drawn _ _), .of_ext (Ext.drawn _ _), (fun q h => by cases h)⟩
    · rw [hD] at hd0
      have HD := Lib.hid hD
      have HDF := Lib.hid (HW.out.dead.frozen (P + pc))
      clear hu hpc hat hk hW hC hN hK hP hP2 hJ ih hN4 hl hD
      go_enter Tryd.func55, Tryd.ntmps55
      go_upto_region 1 with fail
      go_quiet (fail)
      go_upto_region 3 with fail
      have fz := HDF.out
      go_region
      have hcs : Chg [R.gd] w ((w.drewN (nq + 1)).setCell ⟨R.gd, P + pc, none⟩ (.bool true)) := (Chg.of_ext (Ext.drawn w (nq + 1))).setCell (p := ⟨R.gd, P + pc, none⟩) (by simp) _
      have hbs := Blk.set_ (HW.out.dead.keep (Ext.drawn w (nq + 1))) (P + pc) (.bool true)
      have hWs := Lib.hid (HW.out.chg (D' := insD D at_ pc) hcs (by
        rw [← deadV_set HPC.out HJ2.out, show at_ * R.c.length + pc = P + pc by rw [HN.out, HP.out]]
        exact hbs))
      have hCs := Lib.hid (HC.out.chg hcs)
      have hCh := Lib.hid hcs
      clear hcs hbs fz hd0 w0 w3
      generalize (w.drewN (nq + 1)).setCell ⟨R.gd, P + pc, none⟩ (.bool true) = w1 at *
      obtain ⟨xi, hxi⟩ : ∃ xi, R.c[pc]? = some xi := ⟨_, List.getElem?_eq_getElem HPC.out⟩
      obtain ⟨bA, oA, hA, hbA, hrg⟩ := codeD_at hWs.out.code hxi
      have HRG := Lib.hid hrg
      have HXI := Lib.hid hxi
      have HUN := Lib.hid (show unD (insD D at_ pc) R.c.length R.K < n by have := unD_ins HPC.out HJ2.out HD.out; have := HU.out; omega)
      have w0 : w1.cell? ⟨R.gw, 0, none⟩ = some (.slice (some ⟨bA, oA, none⟩) N R.cc) := by rw [← HN.out, ← hA]; exact hWs.out.blk.cell 0
      have hpcN : (pc : Int) < (N : Int) := by have := HPC.out; have := HN.out; omega
      clear hrg hA hbA
      go_upto_region 5 with (first
        | (refine store_di_new rfl (.tmp 10) (.tmp 49) rfl (i := xi) rfl rfl di_zsize ?_)
        | (refine load_di rfl (.tmp 48) rfl (b := bA) (q := oA + pc * 260) (i := xi) rfl HRG.out ?_))
      have hxb := Ext.new1 w1 (.cells (diC xi).toArray 47)
      have HIB := Lib.hid (show IB (w1.alloc (.cells (diC xi).toArray 47)) w1.heap.size xi from Blk.newL w1 _ _)
      have HW2 := Lib.hid (hWs.out.keep hxb)
      have HC2 := Lib.hid (hCs.out.keep hxb)
      have HCH := Lib.hid (hCh.out.trans (.of_ext hxb))
      have HGX := Lib.hid (show w1.heap.size ≠ R.gd from by have := hWs.out.dead.lt; omega)
      clear hxb w0 hWs hCs hCh HRG
      generalize w1.alloc (.cells (diC xi).toArray 47) = w2 at *
      generalize w1.heap.size = gx at *
      obtain ⟨hlo, hhi, hx0, hy0, hx1, hy1, hsv⟩ := hR.op pc xi hxi
      obtain ⟨op, X, Y, Z, p⟩ := xi
      dsimp only at hlo hhi hx0 hy0 hx1 hy1 hsv
      have h5 : op = 1 ∨ op = 2 ∨ op = 3 ∨ op = 4 ∨ op = 5 := by omega
      have e0 : w2.cell? ⟨gx, 0, none⟩ = some (.int .i64 op) := HIB.out.op
      have t1 : w2.cell? ⟨R.gw, 1, none⟩ = some (.string ⟨R.l.toArray⟩) := HW2.out.blk.cell 1
      clear hlo hhi
      rcases h5 with rfl | rfl | rfl | rfl | rfl
      · -- a byte
        obtain ⟨p1, hp1⟩ : ∃ p1, pc + 1 = p1 := ⟨_, rfl⟩
        obtain ⟨a1, ha1⟩ : ∃ a1, at_ + 1 = a1 := ⟨_, rfl⟩
        have HP1 := Lib.hid hp1
        have HA1 := Lib.hid ha1
        have HPL := Lib.hid (show p1 < R.c.length by have := hR.closed.next pc _ hxi (.inl rfl); omega)
        have n1 : IntKind.i64.wrap ((pc : Int) + 1) = (p1 : Int) := by rw [wrap_id (by omega) (by have := HPC.out; have := HN.out; have := HN4.out; omega)]; omega
        have n2 : IntKind.i64.wrap ((at_ : Int) + 1) = (a1 : Int) := by rw [wrap_id (by omega) (by have := HAT.out; have := HL.out; omega)]; omega
        clear hxi hsv hx0 hx1 hy0 hy1 hp1 ha1
        by_cases hh : at_ = R.l.length
        · have HH := Lib.hid hh
          have hq : ((at_ : Int) == (R.l.length : Int)) = true := by rw [hh]; exact beq_self_eq_true _
          clear hh
          go_wp2
          go_ret2
          exact ⟨_, none, none, 0, 0, rfl, .stop HD.out HXI.out rfl (fun b hb => by have := (List.getElem?_eq_some_iff.1 hb).1; have := HH.out; omega), HW2.out.dead, HCH.out, (fun q h => by cases h)⟩
        · have hlt : at_ < R.l.length := by have := HAT.out; omega
          have hq : ((at_ : Int) == (R.l.length : Int)) = false := beq_eq_false_iff_ne.2 (by omega)
          obtain ⟨b, hbt⟩ : ∃ b, R.l[at_]'hlt = b := ⟨_, rfl⟩
          have HB := Lib.hid (show R.l[at_]? = some b by rw [List.getElem?_eq_getElem hlt, hbt])
          have HAL := Lib.hid (show a1 ≤ R.l.length by have := HA1.out; omega)
          have s0 : w2.cell? ⟨gx, 4 + b.toNat, none⟩ = some (.bool (p b.toNat)) := HIB.out.set (UInt8.toNat_lt b)
          have hltI : (at_ : Int) < (R.l.length : Int) := by omega
          have h256 : (b.toNat : Int) < 256 := by have := UInt8.toNat_lt b; omega
          clear hh
          cases hpb : p b.toNat
          · rw [hpb] at s0
            have HPB := Lib.hid hpb
            clear hpb
            go_wp2
            go_ret2
            exact ⟨_, none, none, 0, 0, rfl, .stop HD.out HXI.out rfl (fun b' hb => by have e := HB.out; rw [e] at hb; cases hb; exact HPB.out), HW2.out.dead, HCH.out, (fun q h => by cases h)⟩
          · rw [hpb] at s0
            have HPB := Lib.hid hpb
            clear hpb
            go_wp2_with (go_at_call 55; refine (HIH.out (insD D at_ pc) p1 a1 k A nk ck w2 HUN.out HPL.out HAL.out HK.out HW2.out HC2.out).mono ?_; intro e w9 hres; obtain ⟨D', r, A9, n9, c9, rfl, hwk, hbd, hch, hq9⟩ := hres)
            go_ret2
            exact ⟨D', r, A9, n9, c9, rfl, .byte HD.out HXI.out rfl HB.out HPB.out (by rw [HP1.out, HA1.out]; exact hwk), hbd, HCH.out.trans hch, hq9⟩
      · -- a jump
        obtain ⟨xn, hxn⟩ : ∃ xn : Nat, X = xn := ⟨X.toNat, by omega⟩
        have HXL := Lib.hid (show xn < R.c.length by omega)
        have HXN := Lib.hid (show X.toNat = xn by omega)
        have e1 : w2.cell? ⟨gx, 1, none⟩ = some (.int .i64 (xn : Nat)) := by rw [← hxn]; exact HIB.out.x
        clear hxi hsv hx0 hx1 hy0 hy1 hxn
        go_wp2_with (go_at_call 55; refine (HIH.out (insD D at_ pc) xn at_ k A nk ck w2 HUN.out HXL.out HAT.out HK.out HW2.out HC2.out).mono ?_; intro e w9 hres; obtain ⟨D', r, A9, n9, c9, rfl, hwk, hbd, hch, hq9⟩ := hres)
        go_ret2
        exact ⟨D', r, A9, n9, c9, rfl, .jump HD.out HXI.out rfl (by rw [HXN.out]; exact hwk), hbd, HCH.out.trans hch, hq9⟩
      · -- a split
        obtain ⟨xn, hxn⟩ : ∃ xn : Nat, X = xn := ⟨X.toNat, by omega⟩
        obtain ⟨yn, hyn⟩ : ∃ yn : Nat, Y = yn := ⟨Y.toNat, by omega⟩
        have HXL := Lib.hid (show xn < R.c.length by omega)
        have HXN := Lib.hid (show X.toNat = xn by omega)
        have HYL := Lib.hid (show yn < R.c.length by omega)
        have HYN := Lib.hid (show Y.toNat = yn by omega)
        have e1 : w2.cell? ⟨gx, 1, none⟩ = some (.int .i64 (xn : Nat)) := by rw [← hxn]; exact HIB.out.x
        have HE2 := Lib.hid (show w2.cell? ⟨gx, 2, none⟩ = some (.int .i64 (yn : Nat)) by rw [← hyn]; exact HIB.out.y)
        clear hxi hsv hx0 hx1 hy0 hy1 hxn hyn
        go_upto_region 14 with (go_at_call 55; refine (HIH.out (insD D at_ pc) xn at_ k A nk ck w2 HUN.out HXL.out HAT.out HK.out HW2.out HC2.out).mono ?_; intro e w9 hres; obtain ⟨D', r, A9, n9, c9, rfl, hwk, hbd, hch, hq9⟩ := hres)
        cases r with
        | some q =>
          clear e0 e1 t1
          go_wp2
          go_ret2
          exact ⟨D', some q, A9, n9, c9, rfl, .left HD.out HXI.out rfl (by rw [HXN.out]; exact hwk), hbd, HCH.out.trans hch, hq9⟩
        | none =>
          have y1 : w9.cell? ⟨gx, 2, none⟩ = some (.int .i64 (yn : Nat)) := hch.cell HE2.out (by have := HGX.out; simpa using this)
          have HWK := Lib.hid hwk
          have HW9 := Lib.hid (HW2.out.chg hch hbd)
          have HC9 := Lib.hid (HC2.out.chg hch)
          have HCH9 := Lib.hid (HCH.out.trans hch)
          have HUN9 := Lib.hid (show unD D' R.c.length R.K < n from Nat.lt_of_le_of_lt (unD_mono (wk_mono hwk)) HUN.out)
          clear e0 e1 t1 hwk hbd hch hq9
          go_wp2_with (go_at_call 55; refine (HIH.out D' yn at_ k A nk ck w9 HUN9.out HYL.out HAT.out HK.out HW9.out HC9.out).mono ?_; intro e w8 hres; obtain ⟨D8, r8, A8, n8, c8, rfl, hwk8, hbd8, hch8, hq8⟩ := hres)
          go_ret2
          exact ⟨D8, r8, A8, n8, c8, rfl, .right HD.out HXI.out rfl (by rw [HXN.out]; exact HWK.out) (by rw [HYN.out]; exact hwk8), hbd8, HCH9.out.trans hch8, hq8⟩
      · -- a save
        obtain ⟨hz1, hz2⟩ := hsv rfl
        obtain ⟨q, hq⟩ : ∃ q : Nat, Z = q + 2 := ⟨(Z - 2).toNat, by omega⟩
        have hkn : k.length = nk := HC2.out.1.len_ints
        have HQL := Lib.hid (show q < nk by have := HK.out; omega)
        have HNK := Lib.hid (show nk ≤ 1000 by have := HK.out; have := hR.few; omega)
        have HZ := Lib.hid (show (Z - 2).toNat = q by omega)
        obtain ⟨p1, hp1⟩ : ∃ p1, pc + 1 = p1 := ⟨_, rfl⟩
        have HP1 := Lib.hid hp1
        have HPL := Lib.hid (show p1 < R.c.length by have := hR.closed.next pc _ hxi (.inr rfl); omega)
        have n1 : IntKind.i64.wrap ((pc : Int) + 1) = (p1 : Int) := by rw [wrap_id (by omega) (by have := HPC.out; have := HN.out; have := HN4.out; omega)]; omega
        have n2 : IntKind.i64.wrap (Z - 2) = (q : Int) := by have := hR.few; rw [wrap_id (by omega) (by omega)]; omega
        obtain ⟨tp, htp⟩ : ∃ tp, R.base + (at_ : Int) = tp := ⟨_, rfl⟩
        have HTP := Lib.hid htp
        have n3 : IntKind.i64.wrap (R.base + (at_ : Int)) = tp := by rw [wrap_id (by omega) (by have := HAT.out; have := HL.out; omega), htp]
        clear hxi hsv hx0 hx1 hy0 hy1 hp1 hz1 hz2 hq hkn htp
        go_upto_region 19 with (refine wpList_app2 Tryd.elemI rfl (.tmp 115) (.tmp 116) rfl (v := .slice (some ⟨w2.heap.size, 0, none⟩) 0 0) (n := 0) rfl (own_empty w2 3 1) (by simp) rfl (HC2.out.1.keep (Ext.new1 _ _)) (one_intsV _) (by have := HNK.out; omega) (by have := HNK.out; unfold maxLen; omega) ?_; intro v3 w3 hown3 hg3 _ _; have hb3 := hg3.below ((Below.refl w2.heap.size w2).alloc (Nat.le_refl _) _) (Nat.le_refl _) (by simp); clear hg3; rw [Nat.zero_add, List.nil_append] at hown3; obtain ⟨g2, c2, rfl, hc2, hm2, hg2, hgl2, hfz2, hcl2⟩ := own_blk1 hown3 (by have := HQL.out; omega))
        have e3 : w3.cell? ⟨gx, 3, none⟩ = some (.int .i64 Z) := (HIB.out.keep hb3).n
        have t2 : w3.cell? ⟨R.gw, 2, none⟩ = some (.int .i64 R.base) := (HW2.out.keep hb3).blk.cell 2
        obtain ⟨x0, hx0⟩ : ∃ x0, k[q]? = some x0 := ⟨_, List.getElem?_eq_getElem (by have := HQL.out; have := HC2.out.1.len_ints; omega)⟩
        have z0 : w3.cell? ⟨g2, q, none⟩ = some (.int .i64 x0) := hcl2 q _ (by unfold intsV; rw [List.getElem?_map, hx0]; rfl)
        have fz := hfz2 q
        have hlt : (q : Int) < (nk : Int) := by have := HQL.out; omega
        have HOWN := Lib.hid hown3
        have HB3 := Lib.hid hb3
        have HG2 := Lib.hid hg2
        clear hcl2 hfz2 hx0 hown3 hb3 hg2 e0 t1
        go_region
        have hdr : Ext (w3.setCell ⟨g2, q, none⟩ (.int .i64 tp)) (w3.setCell ⟨g2, q, none⟩ (.int .i64 tp)).drew := (Below.refl _ _).drew
        have hx4 : Ext w2 (w3.setCell ⟨g2, q, none⟩ (.int .i64 tp)).drew := Ext.trans (Below.setCell HB3.out HG2.out _) hdr
        have HO4 := Lib.hid (own_ext (own_set8 (i := q) HOWN.out (.int .i64 tp)) hdr)
        have HW4 := Lib.hid (HW2.out.keep hx4)
        have HCH4 := Lib.hid (HCH.out.trans (.of_ext hx4))
        have HC4 := Lib.hid (show CapsOK R (w3.setCell ⟨g2, q, none⟩ (.int .i64 tp)).drew (some ⟨g2, 0, none⟩) nk (k.set q (R.base + (at_ : Int))) from by
          refine ⟨?_, fun b o v e => ?_⟩
          · have h := HO4.out
            rw [show (intsV k).set q (.int .i64 tp) = intsV (k.set q (R.base + (at_ : Int))) by rw [HTP.out]; unfold intsV; rw [List.map_set]] at h
            obtain ⟨A8, c8, e8, _, _, hr8⟩ := own_rd h
            cases e8
            exact hr8
          · cases e
            have := HG2.out
            have := HW2.out.dead.lt
            omega)
        clear hdr hx4 e3 t2 z0 fz hlt n2 n3 HB3 HG2 HOWN HO4
        generalize (w3.setCell ⟨g2, q, none⟩ (.int .i64 tp)).drew = w4 at *
        go_wp2_with (go_at_call 55; refine (HIH.out (insD D at_ pc) p1 at_ (k.set q (R.base + (at_ : Int))) (some ⟨g2, 0, none⟩) nk c2 w4 HUN.out HPL.out HAT.out (by rw [List.length_set]; exact HK.out) HW4.out HC4.out).mono ?_; intro e w9 hres; obtain ⟨D', r, A9, n9, c9, rfl, hwk, hbd, hch, hq9⟩ := hres)
        go_ret2
        exact ⟨D', r, A9, n9, c9, rfl, .save HD.out HXI.out rfl (by rw [HP1.out, HZ.out]; exact hwk), hbd, HCH4.out.trans hch, hq9⟩
      · -- a match
        clear hxi hsv hx0 hx1 hy0 hy1
        by_cases hh : at_ = R.l.length
        · have HH := Lib.hid hh
          have hq : ((at_ : Int) == (R.l.length : Int)) = true := by rw [hh]; exact beq_self_eq_true _
          clear hh
          go_upto_region 21 with fail
          go_quiet (fail)
          go_wp2
          go_ret2
          exact ⟨_, some k, A, nk, ck, rfl, (by have := Wk.fin (txt := R.l) (base := R.base) (k := k) HD.out HXI.out rfl; rwa [if_pos HH.out] at this), HW2.out.dead.keep (Ext.drawn _ _), HCH.out.trans (.of_ext (Ext.drawn _ _)), (fun q h => by cases h; exact HC2.out.keep (Ext.drawn _ _))⟩
        · have HH := Lib.hid hh
          have hq : ((at_ : Int) == (R.l.length : Int)) = false := beq_eq_false_iff_ne.2 (by omega)
          clear hh
          go_upto_region 21 with fail
          go_quiet (fail)
          go_wp2
          go_ret2
          exact ⟨_, none, A, nk, ck, rfl, (by have := Wk.fin (txt := R.l) (base := R.base) (k := k) HD.out HXI.out rfl; rwa [if_neg HH.out] at this), HW2.out.dead.keep (Ext.drawn _ _), HCH.out.trans (.of_ext (Ext.drawn _ _)), (fun q h => by cases h)⟩
end Go.Proofs.YtdhmfgaiomfodaaDoor
namespace Go.Proofs.YtdhmfgaiomfodaaDoor
open Go Go.RowKit
attribute [local irreducible] wd

theorem Tryd.elemBl : Elem Tryd.prog 59 4 (.bool false) 1 1 := ⟨Tryd.underlying59, by kernel_rfl, rfl, by omega⟩
def FirstR (c : List Ins) (G : Nat) (base : Int) (bg : Nat → Bool) (l : List UInt8) (w : World) (e : Ending) (w' : World) : Prop :=
  match hitAt c (noneK G) base bg l l.length with
  | none => e = .returned (.tuple #[.int .i64 0, .slice none 0 0, .bool false]) ∧ Ext w w'
  | some x => ∃ A cc, e = .returned (.tuple #[.int .i64 x.1, .slice A x.2.length cc, .bool true]) ∧ Rd w' 1 A x.2.length (intsV x.2) ∧ Ext w w'
def BlS (K lo : Nat) (v : Value) (w : World) : Prop := ∃ gs, v = .slice (some ⟨gs, 0, none⟩) K K ∧ Blk w gs 4 (List.replicate K (.bool false)) ∧ lo ≤ gs
def wkCells (A : Option Addr) (N cc K : Nat) (l : List UInt8) (base : Int) (gs : Nat) : List Value := [.slice A N cc, .string ⟨l.toArray⟩, .int .i64 base, .slice (some ⟨gs, 0, none⟩) K K]
def BlA (A : Option Addr) (N cc K lo : Nat) (l : List UInt8) (base : Int) (v : Value) (w : World) : Prop := ∃ gs, v = .agg (wkCells A N cc K l base gs).toArray ∧ Blk w gs 4 (List.replicate K (.bool false)) ∧ lo ≤ gs
def BlX (A : Option Addr) (N cc K lo : Nat) (l : List UInt8) (base : Int) (v : Value) (w : World) : Prop := ∃ gw gs, v = .pointer (some ⟨gw, 0, none⟩) ∧ Blk w gw 106 (wkCells A N cc K l base gs) ∧ Blk w gs 4 (List.replicate K (.bool false)) ∧ lo ≤ gs ∧ gs < gw
theorem one_nil {c : List Ins} {k : List Int} {base : Int} {bg : Nat → Bool} {l : List UInt8} (f : Nat) (h : bg f = true) : one c k base bg l [] f = fromHere c (l.drop f) (base + f) (0, base + f, k) := by
  unfold one
  rw [h, if_pos rfl, List.append_nil]
set_option maxHeartbeats 8000000 in
set_option maxRecDepth 20000 in
theorem refFirst (c : List Ins) (G : Nat) (hR : RightC c G) (l : List UInt8) (hl : l.length ≤ 1000) (base : Int) (hb : 0 ≤ base ∧ base ≤ 1000000000000) (bg : Nat → Bool) (bcs : List Value) (hbg : ∀ j, j ≤ l.length → bcs[j]? = some (.bool (bg j)))
    (A Ab : Option Addr) (cc nb cb N : Nat) (hN : c.length = N) (w : World) (hC : Rd w 260 A N (codeD c)) (hB : Rd w 1 Ab nb bcs) :
    Calls Tryd.prog 26 #[.slice A N cc, .int .i64 (G : Nat), .string ⟨l.toArray⟩, .int .i64 base, .slice Ab nb cb] w fun e w' => FirstR c G base bg l w e w' := by
  obtain ⟨H, hH⟩ : ∃ H, 2 * G = H := ⟨_, rfl⟩
  have HH := Lib.hid hH
  have HN4 := Lib.hid (show N ≤ 400 ∧ H ≤ 18 from ⟨by have := hR.most; omega, by have := hR.few; omega⟩)
  have HL := Lib.hid hl
  have HBG := Lib.hid hbg
  have HN := Lib.hid hN
  have HC := Lib.hid hC
  have HB := Lib.hid hB
  have hH2 : IntKind.i64.wrap (2 * (G : Int)) = (H : Int) := by have := hR.few; rw [wrap_id (by omega) (by omega)]; omega
  clear hH hl hbg hN hC hB
  go_enter Tryd.func26, Tryd.ntmps26
  go_upto_region 2 with fail
  have hown0 := own_empty w 3 1
  have hx0 := Ext.new1 w (.cells #[] 3)
  obtain ⟨B1, hB1⟩ : ∃ B1, w.heap.size = B1 := ⟨_, rfl⟩
  have HB1 := Lib.hid hB1
  rw [hB1] at hown0
  rw [hB1]
  have HO0 := Lib.hid hown0
  have HX0 := Lib.hid hx0
  clear hown0 hx0 hB1
  generalize w.alloc (.cells #[] 3) = wa at *
  go_wp2
  go_loopg [13, 14] H (fun g ov iv wr => ∃ j : Nat, j ≤ H ∧ g = H - j ∧ iv = .int .i64 (j : Nat) ∧ wr.ownsRow B1 3 1 ov j (intsV (List.replicate j (-1))) ∧ Ext w wr)
  case atStart => exact ⟨0, by omega, rfl, rfl, HO0.out, HX0.out⟩
  case round =>
    obtain ⟨j, hj, rfl, rfl, hown, hx⟩ := hrel
    by_cases hlt : j < H
    · have hlt' : (j : Int) < (H : Int) := by omega
      have hw2 : IntKind.i64.wrap ((j : Int) + 1) = (j : Int) + 1 := wrap_id (by omega) (by have := HN4.out; omega)
      have HOWN := Lib.hid hown
      have HX := Lib.hid hx
      have HLT := Lib.hid hlt
      obtain ⟨A', c', rfl, _, _, _⟩ := own_rd hown
      clear hown hx hj hlt
      go_wp2_with (refine wpList_app2 Tryd.elemI rfl (.tmp 26) (.tmp 27) rfl (v := .slice A' j c') (n := j) (xs := intsV (List.replicate j (-1))) rfl (own_ext HOWN.out (Ext.new1 _ _)) (by have := HX.out.size; have := HB1.out; simp; omega) (A := some ⟨wr.heap.size, 0, none⟩) (m := 1) (c := 1) (news := [.int .i64 (-1)]) rfl (by have hr := (Blk.newL wr 3 [.int .i64 (-1)]).rd (n := 1) (size := 1) 0 (by simp); simpa using hr) (one_one rfl) (by have := HLT.out; have := HN4.out; omega) (by have := HLT.out; have := HN4.out; unfold maxLen; omega) ?_; intro v9 w9 hown9 hgr9 _ _)
      have HX9 := Lib.hid (show Ext w w9 from hgr9.below (Ext.trans HX.out (Ext.new1 _ _)) (by rw [HB1.out]; exact Nat.le_refl _) (by have := HX.out.size; simp; omega))
      have HO9 := Lib.hid (show w9.ownsRow B1 3 1 v9 (j + 1) (intsV (List.replicate (j + 1) (-1))) from by
        rw [List.replicate_succ']
        unfold intsV at hown9 ⊢
        rw [List.map_append]
        exact hown9)
      obtain ⟨A9, c9, rfl, _, _, _⟩ := own_rd hown9
      clear hown9 hgr9
      go_roundg (H - (j + 1))
      case measure => have := HLT.out; omega
      case rel => exact ⟨j + 1, by have := HLT.out; omega, rfl, by go_num, HO9.out, HX9.out⟩
    · obtain rfl : j = H := by omega
      have hlt' : ¬ (j : Int) < (j : Int) := by omega
      have HX := Lib.hid hx
      obtain ⟨A', c', rfl, _, _, hrd⟩ := own_rd hown
      have HRK := Lib.hid (show Rd wr 1 A' j (intsV (noneK G)) from by unfold noneK; rw [HH.out]; exact hrd)
      have HAK := Lib.hid (show ∀ b o v, A' = some ⟨b, o, v⟩ → b < wr.heap.size from fun b o v e => (hown.lt b (by subst e; rfl)).2)
      clear hown hx hj hlt hrd HO0 HX0
      generalize wr = wk at *
      go_wp2
      go_loopg [15] (l.length + 1) (fun g iv wr => ∃ f : Nat, f ≤ l.length + 1 ∧ g = l.length + 1 - f ∧ iv = .int .i64 (f : Nat) ∧ (∀ i, i < f → one c (noneK G) base bg l [] i = none) ∧ Ext wk wr)
      case atStart => exact ⟨0, by omega, rfl, rfl, (fun i hi => by omega), Ext.refl _⟩
      case round =>
        obtain ⟨f, hf, rfl, rfl, hno, hx⟩ := hrel
        have HNO := Lib.hid hno
        have HXW := Lib.hid hx
        clear hno hx
        by_cases hlf : f ≤ l.length
        · have hlf' : (f : Int) ≤ (l.length : Int) := by omega
          have HLF := Lib.hid hlf
          have hbl : 0 < bcs.length := by have := (List.getElem?_eq_some_iff.1 (HBG.out f hlf)).1; omega
          obtain ⟨bb, ob, rfl, hbb, hbc⟩ := HB.out.2 hbl
          have hnb : bcs.length = nb := by have := HB.out.1; omega
          have hfn : (f : Int) < (nb : Int) := by have := (List.getElem?_eq_some_iff.1 (HBG.out f hlf)).1; omega
          have d0 : wr.cell? ⟨bb, ob + f, none⟩ = some (.bool (bg f)) := ((HXW.out).cell (p := ⟨bb, ob + f, none⟩) (by have := HX.out.size; exact Nat.lt_of_lt_of_le hbb this)).trans ((HX.out.cell (p := ⟨bb, ob + f, none⟩) hbb).trans (hbc f _ (HBG.out f hlf)))
          have hw2 : IntKind.i64.wrap ((f : Int) + 1) = (f : Int) + 1 := wrap_id (by omega) (by have := HL.out; omega)
          clear hbc hnb hbl hlf
          cases hbf : bg f
          · rw [hbf] at d0
            have HBF := Lib.hid hbf
            clear hbf
            go_wp2
            go_roundg (l.length + 1 - (f + 1))
            case measure => have := HLF.out; omega
            case rel =>
              refine ⟨f + 1, by have := HLF.out; omega, rfl, by go_num, fun i hi => ?_, HXW.out⟩
              by_cases he : i = f
              · subst he
                unfold one
                rw [HBF.out]
                rfl
              · exact HNO.out i (by omega)
          · rw [hbf] at d0
            have HBF := Lib.hid hbf
            clear hbf
            obtain ⟨tp, htp⟩ : ∃ tp, base + (f : Int) = tp := ⟨_, rfl⟩
            have HTP := Lib.hid htp
            have HTB := Lib.hid (show 0 ≤ tp ∧ tp ≤ 10000000000000 by have := HL.out; have := HLF.out; omega)
            have m0 : IntKind.i64.wrap (base + (f : Int)) = tp := by rw [wrap_id (by omega) (by have := HTB.out; omega), htp]
            obtain ⟨q1, hq1⟩ : ∃ q1, l.length - f = q1 := ⟨_, rfl⟩
            have HQ1 := Lib.hid hq1
            have m1 : IntKind.i64.wrap ((l.length : Int) - (f : Int)) = (q1 : Int) := by rw [wrap_id (by omega) (by have := HL.out; omega)]; omega
            have m2 : IntKind.i64.wrap ((q1 : Int) + 1) = ((q1 + 1 : Nat) : Int) := by rw [wrap_id (by omega) (by have := HL.out; have := HQ1.out; omega)]; omega
            obtain ⟨K, hK⟩ : ∃ K, (q1 + 1) * N = K := ⟨_, rfl⟩
            have hK4 : K ≤ 400400 := by
              rw [← hK]
              have := Nat.mul_le_mul (show q1 + 1 ≤ 1001 by have := HL.out; omega) HN4.out.1
              omega
            have HK := Lib.hid hK
            have HK4 := Lib.hid hK4
            have m3 : IntKind.i64.wrap (((q1 : Int) + 1) * (N : Int)) = (K : Int) := by
              have e : ((q1 : Int) + 1) * (N : Int) = (K : Int) := by rw [← hK]; simp
              rw [e, wrap_id (by omega) (by omega)]
            have HMM := Lib.hid (And.intro m0 (And.intro m1 (And.intro m2 m3)))
            have HD0 := Lib.hid d0
            clear htp hq1 hK hK4 m0 m1 m2 m3
            go_upto_region 10 with fail
            clear d0
            refine wp_region_dag (E := Ext) (w0 := wr) (Φ := fun i v w => match i with | 0 => (v = .slice A N cc) | 1 => (v = .string ⟨l.toArray⟩) | 2 => (v = .int .i64 (f : Nat)) | 3 => (v = .string ⟨(l.drop f).toArray⟩) | 4 => (v = .int .i64 base) | 5 => (v = .int .i64 (f : Nat)) | 6 => (v = .int .i64 tp) | 7 => (v = .string ⟨l.toArray⟩) | 8 => (v = .int .i64 (l.length : Nat)) | 9 => (v = .int .i64 (f : Nat)) | 10 => (v = .int .i64 (q1 : Nat)) | 11 => (v = .int .i64 ((q1 : Int) + 1)) | 12 => (v = .slice A N cc) | 13 => (v = .int .i64 (N : Nat)) | 14 => (v = .int .i64 (K : Nat)) | 15 => (BlS K wr.heap.size v w) | 16 => (BlA A N cc K wr.heap.size (l.drop f) tp v w) | 17 => (BlX A N cc K wr.heap.size (l.drop f) tp v w) | 18 => (BlX A N cc K wr.heap.size (l.drop f) tp v w) | _ => True) (show Tryd.prog.follows .mixedOrders = true from Checked.mixed Tryd.checked) 69 rfl (by decide +kernel) ?_ ((Below.refl _ _).drew) ?_ ⟨?_, ?_, ?_, ?_, ?_, ?_, ?_, ?_, ?_, ?_, ?_, ?_, ?_, ?_, ?_, ?_, ?_, ?_, ?_, trivial⟩ ?_
            · intro i v w w' h hE
              match i, h with
              | 0, h => exact h
              | 1, h => exact h
              | 2, h => exact h
              | 3, h => exact h
              | 4, h => exact h
              | 5, h => exact h
              | 6, h => exact h
              | 7, h => exact h
              | 8, h => exact h
              | 9, h => exact h
              | 10, h => exact h
              | 11, h => exact h
              | 12, h => exact h
              | 13, h => exact h
              | 14, h => exact h
              | 15, h => exact (by obtain ⟨gs, g1, g2, g3⟩ := h; exact ⟨gs, g1, g2.keep hE, g3⟩)
              | 16, h => exact (by obtain ⟨gs, g1, g2, g3⟩ := h; exact ⟨gs, g1, g2.keep hE, g3⟩)
              | 17, h => exact (by obtain ⟨gr, gs, g1, g0, g2, g3, g4⟩ := h; exact ⟨gr, gs, g1, g0.keep hE, g2.keep hE, g3, g4⟩)
              | 18, h => exact (by obtain ⟨gr, gs, g1, g0, g2, g3, g4⟩ := h; exact ⟨gr, gs, g1, g0.keep hE, g2.keep hE, g3, g4⟩)
              | _ + 19, _ => trivial
            · exact fun w w' h h' => h.trans h'
            ·
              intro ac wx hE hsz hdf h
              have e0 : ac.tmps[0]? = some (.slice A N cc) := by obtain ⟨v, h1, h2⟩ := h 0 (by decide +kernel); exact h1.trans h2.symm
              clear h hsz hdf
              go_wp2
              exact ⟨_, rfl, rfl, Ext.refl _⟩
            ·
              intro ac wx hE hsz hdf h
              have e2 : ac.tmps[2]? = some (.string ⟨l.toArray⟩) := by obtain ⟨v, h1, h2⟩ := h 2 (by decide +kernel); exact h1.trans h2.symm
              clear h hsz hdf
              go_wp2
              exact ⟨_, rfl, rfl, Ext.refl _⟩
            ·
              intro ac wx hE hsz hdf h
              have e15 : ac.tmps[15]? = some (.int .i64 (f : Nat)) := by obtain ⟨v, h1, h2⟩ := h 15 (by decide +kernel); exact h1.trans h2.symm
              clear h hsz hdf
              go_wp2
              exact ⟨_, rfl, rfl, Ext.refl _⟩
            ·
              intro ac wx hE hsz hdf h
              have e41 : ac.tmps[41]? = some (.string ⟨l.toArray⟩) := by obtain ⟨v, h1, h2⟩ := h 41 (by decide +kernel); rw [h1]; exact congrArg some h2
              have e42 : ac.tmps[42]? = some (.int .i64 (f : Nat)) := by obtain ⟨v, h1, h2⟩ := h 42 (by decide +kernel); rw [h1]; exact congrArg some h2
              clear h hsz hdf
              have hlq := HLF.out
              go_wp2
              exact ⟨_, rfl, rfl, Ext.refl _⟩
            ·
              intro ac wx hE hsz hdf h
              have e3 : ac.tmps[3]? = some (.int .i64 base) := by obtain ⟨v, h1, h2⟩ := h 3 (by decide +kernel); exact h1.trans h2.symm
              clear h hsz hdf
              go_wp2
              exact ⟨_, rfl, rfl, Ext.refl _⟩
            ·
              intro ac wx hE hsz hdf h
              have e15 : ac.tmps[15]? = some (.int .i64 (f : Nat)) := by obtain ⟨v, h1, h2⟩ := h 15 (by decide +kernel); exact h1.trans h2.symm
              clear h hsz hdf
              go_wp2
              exact ⟨_, rfl, rfl, Ext.refl _⟩
            ·
              intro ac wx hE hsz hdf h
              have e44 : ac.tmps[44]? = some (.int .i64 base) := by obtain ⟨v, h1, h2⟩ := h 44 (by decide +kernel); rw [h1]; exact congrArg some h2
              have e45 : ac.tmps[45]? = some (.int .i64 (f : Nat)) := by obtain ⟨v, h1, h2⟩ := h 45 (by decide +kernel); rw [h1]; exact congrArg some h2
              clear h hsz hdf
              have m0 := HMM.out.1
              go_wp2
              exact ⟨_, rfl, rfl, Ext.refl _⟩
            ·
              intro ac wx hE hsz hdf h
              have e2 : ac.tmps[2]? = some (.string ⟨l.toArray⟩) := by obtain ⟨v, h1, h2⟩ := h 2 (by decide +kernel); exact h1.trans h2.symm
              clear h hsz hdf
              go_wp2
              exact ⟨_, rfl, rfl, Ext.refl _⟩
            ·
              intro ac wx hE hsz hdf h
              have e47 : ac.tmps[47]? = some (.string ⟨l.toArray⟩) := by obtain ⟨v, h1, h2⟩ := h 47 (by decide +kernel); rw [h1]; exact congrArg some h2
              clear h hsz hdf
              go_wp2
              exact ⟨_, rfl, rfl, Ext.refl _⟩
            ·
              intro ac wx hE hsz hdf h
              have e15 : ac.tmps[15]? = some (.int .i64 (f : Nat)) := by obtain ⟨v, h1, h2⟩ := h 15 (by decide +kernel); exact h1.trans h2.symm
              clear h hsz hdf
              go_wp2
              exact ⟨_, rfl, rfl, Ext.refl _⟩
            ·
              intro ac wx hE hsz hdf h
              have e48 : ac.tmps[48]? = some (.int .i64 (l.length : Nat)) := by obtain ⟨v, h1, h2⟩ := h 48 (by decide +kernel); rw [h1]; exact congrArg some h2
              have e49 : ac.tmps[49]? = some (.int .i64 (f : Nat)) := by obtain ⟨v, h1, h2⟩ := h 49 (by decide +kernel); rw [h1]; exact congrArg some h2
              clear h hsz hdf
              have m1 := HMM.out.2.1
              go_wp2
              exact ⟨_, rfl, rfl, Ext.refl _⟩
            ·
              intro ac wx hE hsz hdf h
              have e50 : ac.tmps[50]? = some (.int .i64 (q1 : Nat)) := by obtain ⟨v, h1, h2⟩ := h 50 (by decide +kernel); rw [h1]; exact congrArg some h2
              clear h hsz hdf
              have m2 := HMM.out.2.2.1
              go_wp2
              exact ⟨_, rfl, rfl, Ext.refl _⟩
            ·
              intro ac wx hE hsz hdf h
              have e0 : ac.tmps[0]? = some (.slice A N cc) := by obtain ⟨v, h1, h2⟩ := h 0 (by decide +kernel); exact h1.trans h2.symm
              clear h hsz hdf
              go_wp2
              exact ⟨_, rfl, rfl, Ext.refl _⟩
            ·
              intro ac wx hE hsz hdf h
              have e52 : ac.tmps[52]? = some (.slice A N cc) := by obtain ⟨v, h1, h2⟩ := h 52 (by decide +kernel); rw [h1]; exact congrArg some h2
              clear h hsz hdf
              go_wp2
              exact ⟨_, rfl, rfl, Ext.refl _⟩
            ·
              intro ac wx hE hsz hdf h
              have e51 : ac.tmps[51]? = some (.int .i64 ((q1 : Int) + 1)) := by obtain ⟨v, h1, h2⟩ := h 51 (by decide +kernel); rw [h1]; exact congrArg some h2
              have e53 : ac.tmps[53]? = some (.int .i64 (N : Nat)) := by obtain ⟨v, h1, h2⟩ := h 53 (by decide +kernel); rw [h1]; exact congrArg some h2
              clear h hsz hdf
              have m3 := HMM.out.2.2.2
              go_wp2
              exact ⟨_, rfl, rfl, Ext.refl _⟩
            ·
              intro ac wx hE hsz hdf h
              have e54 : ac.tmps[54]? = some (.int .i64 (K : Nat)) := by obtain ⟨v, h1, h2⟩ := h 54 (by decide +kernel); rw [h1]; exact congrArg some h2
              clear h hsz hdf
              have hsz8 := hE.size
              go_wp2_with ((refine wpList_mk1 (kl := .i64) (kc := .i64) Tryd.elemBl rfl rfl (.tmp 54) (.tmp 54) rfl (L := ((K : Nat) : Int)) (C := ((K : Nat) : Int)) (n := K) (cap := K) (by simp only [Act.eval, Array.getD_eq_getD_getElem?, e54]; rfl) (by simp only [Act.eval, Array.getD_eq_getD_getElem?, e54]; rfl) rfl rfl (Nat.le_refl _) (by have := HK4.out; omega) (by have := HK4.out; unfold maxLen; omega) ?_; intro w9 hB9 hb9))
              exact ⟨_, rfl, ⟨_, rfl, hB9, hE.size⟩, hb9⟩
            ·
              intro ac wx hE hsz hdf h
              have e40 : ac.tmps[40]? = some (.slice A N cc) := by obtain ⟨v, h1, h2⟩ := h 40 (by decide +kernel); rw [h1]; exact congrArg some h2
              have e43 : ac.tmps[43]? = some (.string ⟨(l.drop f).toArray⟩) := by obtain ⟨v, h1, h2⟩ := h 43 (by decide +kernel); rw [h1]; exact congrArg some h2
              have e46 : ac.tmps[46]? = some (.int .i64 tp) := by obtain ⟨v, h1, h2⟩ := h 46 (by decide +kernel); rw [h1]; exact congrArg some h2
              obtain ⟨v55, e55, s55⟩ : ∃ v, ac.tmps[55]? = some v ∧ (BlS K wr.heap.size v wx) := h 55 (by decide +kernel)
              clear h hsz hdf
              obtain ⟨gs, rfl, hs1, hs2⟩ := s55
              go_wp2
              exact ⟨_, rfl, ⟨gs, rfl, hs1, hs2⟩, Ext.refl _⟩
            ·
              intro ac wx hE hsz hdf h
              obtain ⟨v56, e56, s56⟩ : ∃ v, ac.tmps[56]? = some v ∧ (BlA A N cc K wr.heap.size (l.drop f) tp v wx) := h 56 (by decide +kernel)
              clear h hsz hdf
              obtain ⟨gs, rfl, hs1, hs2⟩ := s56; unfold wkCells at *; have hlt9 := Blk.lt hs1
              go_wp2
              exact ⟨_, rfl, ⟨_, gs, rfl, Blk.newL wx 106 (wkCells A N cc K (l.drop f) tp gs), hs1.keep (Ext.new1 _ _), hs2, hlt9⟩, Ext.new1 _ _⟩
            ·
              intro ac wx hE hsz hdf h
              obtain ⟨v57, e57, s57⟩ : ∃ v, ac.tmps[57]? = some v ∧ (BlX A N cc K wr.heap.size (l.drop f) tp v wx) := h 57 (by decide +kernel)
              clear h hsz hdf
              obtain ⟨gr, gs, rfl, hs0, hs1, hs2, hs3⟩ := s57
              go_wp2
              exact ⟨_, rfl, ⟨gr, gs, rfl, hs0, hs1, hs2, hs3⟩, Ext.refl _⟩
            · intro ac w9 hE hsz hdf h hrest
              obtain ⟨v0, s0, g0⟩ := h 0 _ rfl
              have e0 := g0 40 rfl
              obtain rfl : v0 = .slice A N cc := s0
              obtain ⟨v1, s1, g1⟩ := h 1 _ rfl
              have e1 := g1 41 rfl
              obtain rfl : v1 = .string ⟨l.toArray⟩ := s1
              obtain ⟨v2, s2, g2⟩ := h 2 _ rfl
              have e2 := g2 42 rfl
              obtain rfl : v2 = .int .i64 (f : Nat) := s2
              obtain ⟨v3, s3, g3⟩ := h 3 _ rfl
              have e3 := g3 43 rfl
              obtain rfl : v3 = .string ⟨(l.drop f).toArray⟩ := s3
              obtain ⟨v4, s4, g4⟩ := h 4 _ rfl
              have e4 := g4 44 rfl
              obtain rfl : v4 = .int .i64 base := s4
              obtain ⟨v5, s5, g5⟩ := h 5 _ rfl
              have e5 := g5 45 rfl
              obtain rfl : v5 = .int .i64 (f : Nat) := s5
              obtain ⟨v6, s6, g6⟩ := h 6 _ rfl
              have e6 := g6 46 rfl
              obtain rfl : v6 = .int .i64 tp := s6
              obtain ⟨v7, s7, g7⟩ := h 7 _ rfl
              have e7 := g7 47 rfl
              obtain rfl : v7 = .string ⟨l.toArray⟩ := s7
              obtain ⟨v8, s8, g8⟩ := h 8 _ rfl
              have e8 := g8 48 rfl
              obtain rfl : v8 = .int .i64 (l.length : Nat) := s8
              obtain ⟨v9, s9, g9⟩ := h 9 _ rfl
              have e9 := g9 49 rfl
              obtain rfl : v9 = .int .i64 (f : Nat) := s9
              obtain ⟨v10, s10, g10⟩ := h 10 _ rfl
              have e10 := g10 50 rfl
              obtain rfl : v10 = .int .i64 (q1 : Nat) := s10
              obtain ⟨v11, s11, g11⟩ := h 11 _ rfl
              have e11 := g11 51 rfl
              obtain rfl : v11 = .int .i64 ((q1 : Int) + 1) := s11
              obtain ⟨v12, s12, g12⟩ := h 12 _ rfl
              have e12 := g12 52 rfl
              obtain rfl : v12 = .slice A N cc := s12
              obtain ⟨v13, s13, g13⟩ := h 13 _ rfl
              have e13 := g13 53 rfl
              obtain rfl : v13 = .int .i64 (N : Nat) := s13
              obtain ⟨v14, s14, g14⟩ := h 14 _ rfl
              have e14 := g14 54 rfl
              obtain rfl : v14 = .int .i64 (K : Nat) := s14
              obtain ⟨v15, s15, g15⟩ := h 15 _ rfl
              have e15 := g15 55 rfl
              replace s15 : BlS K wr.heap.size v15 w9 := s15
              obtain ⟨v16, s16, g16⟩ := h 16 _ rfl
              have e16 := g16 56 rfl
              replace s16 : BlA A N cc K wr.heap.size (l.drop f) tp v16 w9 := s16
              obtain ⟨v17, s17, g17⟩ := h 17 _ rfl
              have e17 := g17 57 rfl
              replace s17 : BlX A N cc K wr.heap.size (l.drop f) tp v17 w9 := s17
              obtain ⟨v18, s18, g18⟩ := h 18 _ rfl
              have e18 := g18 16 rfl
              replace s18 : BlX A N cc K wr.heap.size (l.drop f) tp v18 w9 := s18
              have ha := act_of [(40, .slice A N cc), (41, .string ⟨l.toArray⟩), (42, .int .i64 (f : Nat)), (43, .string ⟨(l.drop f).toArray⟩), (44, .int .i64 base), (45, .int .i64 (f : Nat)), (46, .int .i64 tp), (47, .string ⟨l.toArray⟩), (48, .int .i64 (l.length : Nat)), (49, .int .i64 (f : Nat)), (50, .int .i64 (q1 : Nat)), (51, .int .i64 ((q1 : Int) + 1)), (52, .slice A N cc), (53, .int .i64 (N : Nat)), (54, .int .i64 (K : Nat)), (55, v15), (56, v16), (57, v17), (16, v18)] rfl hsz hdf (by intro p hp; simp only [List.mem_cons, List.not_mem_nil, or_false] at hp; rcases hp with rfl | rfl | rfl | rfl | rfl | rfl | rfl | rfl | rfl | rfl | rfl | rfl | rfl | rfl | rfl | rfl | rfl | rfl | rfl <;> first | exact e0 | exact e1 | exact e2 | exact e3 | exact e4 | exact e5 | exact e6 | exact e7 | exact e8 | exact e9 | exact e10 | exact e11 | exact e12 | exact e13 | exact e14 | exact e15 | exact e16 | exact e17 | exact e18) hrest
              clear h hrest hsz hdf e0 e1 e2 e3 e4 e5 e6 e7 e8 e9 e10 e11 e12 e13 e14 e15 e16 e17 e18 g0 g1 g2 g3 g4 g5 g6 g7 g8 g9 g10 g11 g12 g13 g14 g15 g16 g17 g18
              subst ha
              simp only [List.foldl_cons, List.foldl_nil, Act.put, List.setIfInBounds_toArray, List.set_cons_succ, List.set_cons_zero]
              obtain ⟨gw, gs, rfl, hs0, hs1, hs2, hs3⟩ := s18
              have HXN := Lib.hid (Ext.trans HXW.out hE)
              have HWO := Lib.hid (show WkOK ⟨A, cc, c, l.drop f, tp, gw, gs, G⟩ w9 (fun _ _ => false) from by
                have hsw : Ext w w9 := Ext.trans HX.out HXN.out
                have eK : (⟨A, cc, c, l.drop f, tp, gw, gs, G⟩ : WP).K = K := by unfold WP.K; dsimp only; rw [List.length_drop, HQ1.out, HN.out, HK.out]
                refine ⟨?_, ?_, fun b o v e => ?_, ?_, ?_⟩
                · unfold wkC; rw [eK]; dsimp only; rw [HN.out]; exact hs0
                · dsimp only; rw [HN.out]; exact HC.out.keep hsw
                · dsimp only at e ⊢
                  obtain ⟨b', o', e', hlt8, _⟩ := HC.out.2 (by rw [codeD_len]; have := hR.pos; omega)
                  rw [e'] at e
                  cases e
                  have := HX.out.size
                  have := HXW.out.size
                  omega
                · dsimp only; omega
                · rw [eK]
                  have e : deadV (fun _ _ => false) c.length K = List.replicate K (.bool false) := by
                    unfold deadV
                    apply List.ext_getElem?
                    intro j
                    rw [List.getElem?_map, List.getElem?_replicate]
                    by_cases hj : j < K
                    · rw [List.getElem?_range hj, if_pos hj]; rfl
                    · rw [List.getElem?_eq_none (by simpa using hj), if_neg hj]; rfl
                  dsimp only
                  rw [e]
                  exact hs1)
              have HCO := Lib.hid (show CapsOK ⟨A, cc, c, l.drop f, tp, gw, gs, G⟩ w9 A' j (noneK G) from ⟨HRK.out.keep HXN.out, fun b o v e => by have := HAK.out b o v e; have := HXW.out.size; dsimp only; omega⟩)
              have HGS := Lib.hid (show wk.heap.size ≤ gs by have := HXW.out.size; omega)
              clear hs0 hs1 hs2 hs3 hE s15 s16 s17
              go_upto_region 12 with (go_at_call 55; refine (refWalk ⟨A, cc, c, l.drop f, tp, gw, gs, G⟩ hR (by have := HL.out; rw [List.length_drop]; omega) HTB.out _ (fun _ _ => false) 0 0 (noneK G) A' j c' w9 (Nat.lt_succ_self _) hR.pos (Nat.zero_le _) (by simp [noneK]) HWO.out HCO.out).mono ?_; intro e w8 hres; obtain ⟨D', r, A9, n9, c9, rfl, hwk, hbd, hch, hq9⟩ := hres)
              have hfr := wk_from hR.closed hR.pos hwk
              try dsimp only at hfr
              try dsimp only at hch
              have hone := one_nil (c := c) (k := noneK G) (base := base) (l := l) f HBF.out
              rw [HTP.out, hfr] at hone
              have HX8 := Lib.hid (show Ext wk w8 from (Chg.trans (.of_ext HXN.out) hch).ext (fun y hy => by simp at hy; subst hy; exact HGS.out))
              cases r with
              | none =>
                have HNO2 := Lib.hid (show ∀ i, i < f + 1 → one c (noneK G) base bg l [] i = none from fun i hi => by
                  by_cases he : i = f
                  · subst he; exact hone
                  · exact HNO.out i (by omega))
                clear hwk hbd hch hq9 hfr hone
                go_wp2
                go_roundg (l.length + 1 - (f + 1))
                case measure => have := HLF.out; omega
                case rel => exact ⟨f + 1, by have := HLF.out; omega, rfl, by go_num, HNO2.out, HX8.out⟩
              | some q =>
                have HHIT := Lib.hid (show hitAt c (noneK G) base bg l l.length = some (tp, q) from by
                  unfold hitAt
                  rw [List.take_length]
                  exact first_is (by have := HLF.out; omega) hone HNO.out)
                have HRQ := Lib.hid ((hq9 q rfl).1)
                have m0 := HMM.out.1
                have hnq : n9 = q.length := HRQ.out.len_ints.symm
                subst hnq
                clear hwk hbd hch hq9 hfr hone
                go_wp2
                go_ret3
                unfold FirstR
                rw [HHIT.out]
                exact ⟨A9, c9, rfl, HRQ.out, Ext.trans HX.out HX8.out⟩
        · have hlf' : ¬ (f : Int) ≤ (l.length : Int) := by omega
          have HHIT := Lib.hid (show hitAt c (noneK G) base bg l l.length = none from by
            unfold hitAt
            rw [List.take_length]
            exact first_all (fun i hi => HNO.out i (by omega)))
          clear hlf
          go_wp2
          go_ret3
          unfold FirstR
          rw [HHIT.out]
          exact ⟨rfl, Ext.trans HX.out HXW.out⟩
end Go.Proofs.YtdhmfgaiomfodaaDoor
