/- Put together: Nf0, Sm0, Sm1, Sm2, Sm3, Sm4, Sm5, Sm6, Sm7. -/
import Derived.Test.YtdhmfgaiomfodaaDoorRMn1
import Derived.Test.YtdhmfgaiomfodaaDoorRMn2
namespace Go.Proofs.YtdhmfgaiomfodaaDoor
open Go Go.RowKit

/-- An instruction. -/
structure Ins where
  op : Int
  x : Int
  y : Int
  n : Int
  set : Nat → Bool
def iByte (p : Nat → Bool) : Ins := ⟨1, 0, 0, 0, p⟩
def iJump (x : Nat) : Ins := ⟨2, x, 0, 0, fun _ => false⟩
def iSplit (x y : Nat) (z : Bool) : Ins := if z then ⟨3, y, x, 0, fun _ => false⟩ else ⟨3, x, y, 0, fun _ => false⟩
def iSave (n : Int) : Ins := ⟨4, 0, 0, n, fun _ => false⟩
def iMatch : Ins := ⟨5, 0, 0, 0, fun _ => false⟩
mutual
def codeT : T → Nat → List Ins
  | .node k m z p ks, a =>
    if k = 2 then [iByte p]
    else if k = 3 then codeCat ks a
    else if k = 4 then codeAlt ks a
    else if k = 5 then iSplit (a + 1) (a + (codeHead ks (a + 1)).length + 2) z :: (codeHead ks (a + 1) ++ [iJump a])
    else if k = 7 then iSplit (a + 1) (a + (codeHead ks (a + 1)).length + 1) z :: codeHead ks (a + 1)
    else if k = 6 then codeHead ks a ++ [iSplit a (a + (codeHead ks a).length + 1) z]
    else if k = 8 then iSave (2 * m) :: (codeHead ks (a + 1) ++ [iSave (2 * m + 1)])
    else []
def codeCat : List T → Nat → List Ins
  | [], _ => []
  | t :: ts, a => codeT t a ++ codeCat ts (a + (codeT t a).length)
def codeAlt : List T → Nat → List Ins
  | [], _ => []
  | t :: ts, a =>
    if ts.isEmpty then codeT t a
    else iSplit (a + 1) (a + (codeT t (a + 1)).length + 2) false :: (codeT t (a + 1) ++ (iJump (a + (codeT t (a + 1)).length + 2 + (codeAlt ts (a + (codeT t (a + 1)).length + 2)).length) :: codeAlt ts (a + (codeT t (a + 1)).length + 2)))
def codeHead : List T → Nat → List Ins
  | [], _ => []
  | t :: _, a => codeT t a
end

mutual
/-- How many instructions. -/
def lenT : T → Nat
  | .node k _ _ _ ks => if k = 2 then 1 else if k = 3 then lenC ks else if k = 4 then lenA ks else if k = 5 then lenH ks + 2 else if k = 7 then lenH ks + 1 else if k = 6 then lenH ks + 1 else if k = 8 then lenH ks + 2 else 0
def lenC : List T → Nat
  | [] => 0
  | t :: ts => lenT t + lenC ts
def lenA : List T → Nat
  | [] => 0
  | t :: ts => if ts.isEmpty then lenT t else lenT t + 2 + lenA ts
def lenH : List T → Nat
  | [] => 0
  | t :: _ => lenT t
end
mutual
theorem codeT_len : ∀ (t : T) (a : Nat), (codeT t a).length = lenT t
  | .node k m z p ks, a => by
    have hC := codeCat_len ks a
    have hA := codeAlt_len ks a
    have hH := codeHead_len ks a
    have hH1 := codeHead_len ks (a + 1)
    unfold codeT lenT
    (repeat' split) <;> simp_all
theorem codeCat_len : ∀ (ts : List T) (a : Nat), (codeCat ts a).length = lenC ts
  | [], _ => by simp [codeCat, lenC]
  | t :: ts, a => by
    have h1 := codeT_len t a
    have h2 := codeCat_len ts (a + (codeT t a).length)
    simp only [codeCat, lenC, List.length_append, h1] at h2 ⊢
    rw [h2]
theorem codeAlt_len : ∀ (ts : List T) (a : Nat), (codeAlt ts a).length = lenA ts
  | [], _ => by simp [codeAlt, lenA]
  | t :: ts, a => by
    have h1 := codeT_len t a
    have h2 := codeT_len t (a + 1)
    have h3 := codeAlt_len ts (a + (codeT t (a + 1)).length + 2)
    unfold codeAlt lenA
    split
    · exact h1
    · rw [List.length_cons, List.length_append, List.length_cons, h3, h2]; omega
theorem codeHead_len : ∀ (ts : List T) (a : Nat), (codeHead ts a).length = lenH ts
  | [], _ => by simp [codeHead, lenH]
  | t :: _, a => by simp only [codeHead, lenH]; exact codeT_len t a
end
mutual
theorem lenT_le : ∀ t : T, t.good → lenT t + 2 ≤ 3 * t.size
  | .node k m z p ks => by
    intro hg
    unfold T.good at hg
    have hC := lenC_le ks hg.2.2.2
    have hA := lenA_le ks hg.2.2.2
    have hs := size_node k m z p ks
    have hH : 5 ≤ k → lenH ks + 2 ≤ 3 * sizeL ks := fun h5 => lenH_le ks (hg.2.2.1 h5) hg.2.2.2
    rw [hs]
    unfold lenT
    by_cases k2 : k = 2
    · rw [if_pos k2]; omega
    rw [if_neg k2]
    by_cases k3 : k = 3
    · rw [if_pos k3]; omega
    rw [if_neg k3]
    by_cases k4 : k = 4
    · rw [if_pos k4]; omega
    rw [if_neg k4]
    by_cases k5 : k = 5
    · rw [if_pos k5]; have := hH (by omega); omega
    rw [if_neg k5]
    by_cases k7 : k = 7
    · rw [if_pos k7]; have := hH (by omega); omega
    rw [if_neg k7]
    by_cases k6 : k = 6
    · rw [if_pos k6]; have := hH (by omega); omega
    rw [if_neg k6]
    by_cases k8 : k = 8
    · rw [if_pos k8]; have := hH (by omega); omega
    rw [if_neg k8]; omega
theorem lenC_le : ∀ ts : List T, goodL ts → lenC ts ≤ 3 * sizeL ts
  | [] => by intro _; simp [lenC, sizeL]
  | t :: ts => by
    intro hg
    unfold goodL at hg
    have h1 := lenT_le t hg.1
    have h2 := lenC_le ts hg.2
    simp only [lenC, sizeL]; omega
theorem lenA_le : ∀ ts : List T, goodL ts → lenA ts ≤ 3 * sizeL ts
  | [] => by intro _; simp [lenA, sizeL]
  | t :: ts => by
    intro hg
    unfold goodL at hg
    have h1 := lenT_le t hg.1
    have h2 := lenA_le ts hg.2
    simp only [lenA, sizeL]
    split <;> omega
theorem lenH_le : ∀ ts : List T, ts ≠ [] → goodL ts → lenH ts + 2 ≤ 3 * sizeL ts
  | [] => by intro h; exact absurd rfl h
  | t :: ts => by
    intro _ hg
    unfold goodL at hg
    have h1 := lenT_le t hg.1
    simp only [lenH, sizeL]; omega
end

/-- An instruction with what its kind has alone, that leads no further than many, and saves within these. -/
def Ins.good (i : Ins) (many lo hi : Int) : Prop :=
  (i.op = 1 ∧ i.x = 0 ∧ i.y = 0 ∧ i.n = 0) ∨ (i.op = 2 ∧ 0 ≤ i.x ∧ i.x ≤ many ∧ i.y = 0 ∧ i.n = 0 ∧ i.set = fun _ => false) ∨
  (i.op = 3 ∧ 0 ≤ i.x ∧ i.x ≤ many ∧ 0 ≤ i.y ∧ i.y ≤ many ∧ i.n = 0 ∧ i.set = fun _ => false) ∨ (i.op = 4 ∧ i.x = 0 ∧ i.y = 0 ∧ lo ≤ i.n ∧ i.n ≤ hi ∧ i.set = fun _ => false)
theorem good_mono {i : Ins} {a b lo hi lo' hi' : Int} (h : i.good a lo hi) (hab : a ≤ b) (hl : lo' ≤ lo) (hh : hi ≤ hi') : i.good b lo' hi' := by
  rcases h with h | h | h | h
  · exact .inl h
  · exact .inr (.inl ⟨h.1, h.2.1, by omega, h.2.2.2⟩)
  · exact .inr (.inr (.inl ⟨h.1, h.2.1, by omega, h.2.2.2.1, by omega, h.2.2.2.2.2⟩))
  · exact .inr (.inr (.inr ⟨h.1, h.2.1, h.2.2.1, by omega, by omega, h.2.2.2.2.2⟩))
theorem good_jump {x : Nat} {a lo hi : Int} (h : (x : Int) ≤ a) : (iJump x).good a lo hi := .inr (.inl ⟨rfl, Int.natCast_nonneg x, h, rfl, rfl, rfl⟩)
theorem good_split {x y : Nat} {z : Bool} {a lo hi : Int} (h : (x : Int) ≤ a) (h' : (y : Int) ≤ a) : (iSplit x y z).good a lo hi := by
  cases z
  · exact .inr (.inr (.inl ⟨rfl, Int.natCast_nonneg x, h, Int.natCast_nonneg y, h', rfl, rfl⟩))
  · exact .inr (.inr (.inl ⟨rfl, Int.natCast_nonneg y, h', Int.natCast_nonneg x, h, rfl, rfl⟩))
theorem good_save {n a lo hi : Int} (h : lo ≤ n) (h' : n ≤ hi) : (iSave n).good a lo hi := .inr (.inr (.inr ⟨rfl, rfl, rfl, h, h', rfl⟩))
theorem good_byte {p : Nat → Bool} {a lo hi : Int} : (iByte p).good a lo hi := .inl ⟨rfl, rfl, rfl, rfl⟩

mutual
/-- Behind a right tree there are so many groups more. -/
theorem right_more : ∀ (t : T) (d g : Nat), (t.right d g).1 = true → (t.right d g).2 = g + t.groups
  | .node k m z p ks, d, g => by
    intro h
    have hL := rightL_more ks (d + 1) (if k = 8 then g + 1 else g)
    unfold T.right at h ⊢
    unfold T.groups
    split at h
    · cases h
    · rename_i h1
      rw [if_neg h1]
      split at h
      · cases h
      · rename_i h2
        rw [if_neg h2]
        simp only [Bool.and_eq_true] at h
        rw [hL h.1]
        split <;> omega
theorem rightL_more : ∀ (ts : List T) (d g : Nat), (rightL ts d g).1 = true → (rightL ts d g).2 = g + groupsL ts
  | [], _, _ => by intro _; simp [rightL, groupsL]
  | t :: ts, d, g => by
    intro h
    have h1 := right_more t d g
    unfold rightL at h ⊢
    unfold groupsL
    split at h
    · rename_i h2
      rw [if_pos h2]
      have h3 := h1 h2
      rw [rightL_more ts d _ h, h3]; omega
    · cases h
end
mutual
/-- The instructions of a right tree are right. -/
theorem codeT_good : ∀ (t : T) (d g a : Nat), (t.right d g).1 = true → ∀ i ∈ codeT t a, i.good ((a + lenT t : Nat) : Int) (2 * ((g : Int) + 1)) (2 * ((g + t.groups : Nat) : Int) + 1)
  | .node k m z p ks, d, g, a => by
    intro h
    have hL : (rightL ks (d + 1) (if k = 8 then g + 1 else g)).1 = true ∧ (k = 8 → m = (g : Int) + 1) := by
      unfold T.right at h
      split at h
      · cases h
      · split at h
        · cases h
        · rename_i h2
          simp only [Bool.and_eq_true] at h
          exact ⟨h.1, fun e => by
            by_cases hm : m = (g : Int) + 1
            · exact hm
            · exact absurd ⟨e, hm⟩ h2⟩
    have hgr : (T.node k m z p ks).groups = (if k = 8 then 1 else 0) + groupsL ks := by unfold T.groups; rfl
    rw [hgr]
    have hlen1 := codeHead_len ks (a + 1)
    have hlen0 := codeHead_len ks a
    by_cases k8 : k = 8
    · subst k8
      have hm := hL.2 rfl
      have hl := hL.1
      rw [if_pos rfl] at hl ⊢
      have hH := codeHead_good ks (d + 1) (g + 1) (a + 1) hl
      simp [codeT, lenT]
      refine ⟨good_save (by omega) (by omega), fun i hi => ?_⟩
      rcases hi with hi | hi
      · exact good_mono (hH i hi) (by omega) (by omega) (by omega)
      · subst hi; exact good_save (by omega) (by omega)
    · rw [if_neg k8] at hL ⊢
      have hl := hL.1
      have hC := codeCat_good ks (d + 1) g a hl
      have hA := codeAlt_good ks (d + 1) g a hl
      have hH0 := codeHead_good ks (d + 1) g a hl
      have hH1 := codeHead_good ks (d + 1) g (a + 1) hl
      unfold codeT lenT
      by_cases k2 : k = 2
      · rw [if_pos k2, if_pos k2]; intro i hi; simp at hi; subst hi; exact good_byte
      rw [if_neg k2, if_neg k2]
      by_cases k3 : k = 3
      · rw [if_pos k3, if_pos k3]; exact fun i hi => good_mono (hC i hi) (by omega) (by omega) (by omega)
      rw [if_neg k3, if_neg k3]
      by_cases k4 : k = 4
      · rw [if_pos k4, if_pos k4]; exact fun i hi => good_mono (hA i hi) (by omega) (by omega) (by omega)
      rw [if_neg k4, if_neg k4]
      by_cases k5 : k = 5
      · rw [if_pos k5, if_pos k5]
        intro i hi
        rcases List.mem_cons.1 hi with rfl | hi
        · exact good_split (by omega) (by omega)
        rcases List.mem_append.1 hi with hi | hi
        · exact good_mono (hH1 i hi) (by omega) (by omega) (by omega)
        · simp at hi; subst hi; exact good_jump (by omega)
      rw [if_neg k5, if_neg k5]
      by_cases k7 : k = 7
      · rw [if_pos k7, if_pos k7]
        intro i hi
        rcases List.mem_cons.1 hi with rfl | hi
        · exact good_split (by omega) (by omega)
        · exact good_mono (hH1 i hi) (by omega) (by omega) (by omega)
      rw [if_neg k7, if_neg k7]
      by_cases k6 : k = 6
      · rw [if_pos k6, if_pos k6]
        intro i hi
        rcases List.mem_append.1 hi with hi | hi
        · exact good_mono (hH0 i hi) (by omega) (by omega) (by omega)
        · simp at hi; subst hi; exact good_split (by omega) (by omega)
      rw [if_neg k6, if_neg k6, if_neg k8]
      intro i hi; cases hi
theorem codeCat_good : ∀ (ts : List T) (d g a : Nat), (rightL ts d g).1 = true → ∀ i ∈ codeCat ts a, i.good ((a + lenC ts : Nat) : Int) (2 * ((g : Int) + 1)) (2 * ((g + groupsL ts : Nat) : Int) + 1)
  | [], _, _, _ => by intro _ i hi; simp [codeCat] at hi
  | t :: ts, d, g, a => by
    intro h
    have h1 := codeT_good t d g a
    have hlen := codeT_len t a
    have hmore := right_more t d g
    unfold rightL at h
    split at h
    · rename_i h2
      have h3 := codeCat_good ts d (t.right d g).2 (a + (codeT t a).length) h
      rw [hmore h2] at h3
      intro i hi
      simp only [codeCat] at hi
      simp only [lenC, groupsL]
      rcases List.mem_append.1 hi with hi | hi
      · exact good_mono (h1 h2 i hi) (by omega) (by omega) (by omega)
      · exact good_mono (h3 i hi) (by omega) (by omega) (by omega)
    · cases h
theorem codeAlt_good : ∀ (ts : List T) (d g a : Nat), (rightL ts d g).1 = true → ∀ i ∈ codeAlt ts a, i.good ((a + lenA ts : Nat) : Int) (2 * ((g : Int) + 1)) (2 * ((g + groupsL ts : Nat) : Int) + 1)
  | [], _, _, _ => by intro _ i hi; simp [codeAlt] at hi
  | t :: ts, d, g, a => by
    intro h
    have h1 := codeT_good t d g a
    have h1' := codeT_good t d g (a + 1)
    have hlen := codeT_len t (a + 1)
    have hmore := right_more t d g
    unfold rightL at h
    split at h
    · rename_i h2
      have h3 := codeAlt_good ts d (t.right d g).2 (a + (codeT t (a + 1)).length + 2) h
      have h4 := codeAlt_len ts (a + (codeT t (a + 1)).length + 2)
      rw [hmore h2] at h3
      intro i hi
      unfold codeAlt at hi
      unfold lenA groupsL
      split at hi
      · rename_i he
        rw [if_pos he]
        exact good_mono (h1 h2 i hi) (by omega) (by omega) (by omega)
      · rename_i he
        rw [if_neg he]
        rcases List.mem_cons.1 hi with rfl | hi
        · exact good_split (by omega) (by omega)
        rcases List.mem_append.1 hi with hi | hi
        · exact good_mono (h1' h2 i hi) (by omega) (by omega) (by omega)
        rcases List.mem_cons.1 hi with rfl | hi
        · exact good_jump (by omega)
        · exact good_mono (h3 i hi) (by omega) (by omega) (by omega)
    · cases h
theorem codeHead_good : ∀ (ts : List T) (d g a : Nat), (rightL ts d g).1 = true → ∀ i ∈ codeHead ts a, i.good ((a + lenH ts : Nat) : Int) (2 * ((g : Int) + 1)) (2 * ((g + groupsL ts : Nat) : Int) + 1)
  | [], _, _, _ => by intro _ i hi; simp [codeHead] at hi
  | t :: ts, d, g, a => by
    intro h
    have h1 := codeT_good t d g a
    unfold rightL at h
    split at h
    · rename_i h2
      intro i hi
      simp only [codeHead] at hi
      simp only [lenH, groupsL]
      exact good_mono (h1 h2 i hi) (by omega) (by omega) (by omega)
    · cases h
end
end Go.Proofs.YtdhmfgaiomfodaaDoor
namespace Go.Proofs.YtdhmfgaiomfodaaDoor
open Go Go.RowKit

abbrev Th := Nat × List Int
def ins (s : Nat → Bool) (p : Nat) : Nat → Bool := fun j => s j || j == p
/-- A way goes on until it stands: from an instruction, where some were come to before. -/
inductive Fol (c : List Ins) (pos : Int) : (Nat → Bool) → Nat → List Int → (Nat → Bool) → List Th → Prop where
  | seen {s : Nat → Bool} {pc : Nat} {caps : List Int} : s pc = true → Fol c pos s pc caps s []
  | jump {s : Nat → Bool} {pc : Nat} {caps : List Int} {i : Ins} {s' : Nat → Bool} {L : List Th} : s pc = false → c[pc]? = some i → i.op = 2 → Fol c pos (ins s pc) i.x.toNat caps s' L → Fol c pos s pc caps s' L
  | split {s : Nat → Bool} {pc : Nat} {caps : List Int} {i : Ins} {s1 s2 : Nat → Bool} {L1 L2 : List Th} : s pc = false → c[pc]? = some i → i.op = 3 → Fol c pos (ins s pc) i.x.toNat caps s1 L1 → Fol c pos s1 i.y.toNat caps s2 L2 → Fol c pos s pc caps s2 (L1 ++ L2)
  | save {s : Nat → Bool} {pc : Nat} {caps : List Int} {i : Ins} {s' : Nat → Bool} {L : List Th} : s pc = false → c[pc]? = some i → i.op = 4 → Fol c pos (ins s pc) (pc + 1) (caps.set (i.n - 2).toNat pos) s' L → Fol c pos s pc caps s' L
  | stand {s : Nat → Bool} {pc : Nat} {caps : List Int} {i : Ins} : s pc = false → c[pc]? = some i → i.op ≠ 2 → i.op ≠ 3 → i.op ≠ 4 → Fol c pos s pc caps (ins s pc) [(pc, caps)]
/-- Standing instructions that can be come to. -/
inductive Eps (c : List Ins) : Nat → Nat → Prop where
  | stand {pc : Nat} {i : Ins} : c[pc]? = some i → i.op ≠ 2 → i.op ≠ 3 → i.op ≠ 4 → Eps c pc pc
  | jump {pc q : Nat} {i : Ins} : c[pc]? = some i → i.op = 2 → Eps c i.x.toNat q → Eps c pc q
  | left {pc q : Nat} {i : Ins} : c[pc]? = some i → i.op = 3 → Eps c i.x.toNat q → Eps c pc q
  | right {pc q : Nat} {i : Ins} : c[pc]? = some i → i.op = 3 → Eps c i.y.toNat q → Eps c pc q
  | save {pc q : Nat} {i : Ins} : c[pc]? = some i → i.op = 4 → Eps c (pc + 1) q → Eps c pc q

section
variable {c : List Ins} {pos : Int}
theorem fol_mono {s s' : Nat → Bool} {pc : Nat} {caps : List Int} {L : List Th} (h : Fol c pos s pc caps s' L) : ∀ p, s p = true → s' p = true := by
  induction h with
  | seen _ => exact fun _ h => h
  | jump _ _ _ _ ih => exact fun p h => ih p (by unfold ins; rw [h]; rfl)
  | split _ _ _ _ _ ih1 ih2 => exact fun p h => ih2 p (ih1 p (by unfold ins; rw [h]; rfl))
  | save _ _ _ _ ih => exact fun p h => ih p (by unfold ins; rw [h]; rfl)
  | stand _ _ _ _ _ => exact fun p h => by unfold ins; rw [h]; rfl
theorem ins_true {s : Nat → Bool} {p j : Nat} : ins s p j = true ↔ s j = true ∨ j = p := by
  unfold ins
  rw [Bool.or_eq_true, beq_iff_eq]
/-- What stands in the list, and what was newly come to, can be come to. -/
theorem fol_from {s s' : Nat → Bool} {pc : Nat} {caps : List Int} {L : List Th} (h : Fol c pos s pc caps s' L) :
    (∀ e ∈ L, Eps c pc e.1) ∧ (∀ p, s' p = true → s p = true ∨ ∀ q, Eps c p q → Eps c pc q) := by
  induction h with
  | seen _ => exact ⟨(fun e h => by cases h), fun p h => .inl h⟩
  | jump _ hi ho _ ih =>
    refine ⟨fun e he => .jump hi ho (ih.1 e he), fun p hp => ?_⟩
    rcases ih.2 p hp with h | h
    · rcases ins_true.1 h with h | rfl
      · exact .inl h
      · exact .inr fun q hq => hq
    · exact .inr fun q hq => .jump hi ho (h q hq)
  | split _ hi ho _ _ ih1 ih2 =>
    refine ⟨fun e he => ?_, fun p hp => ?_⟩
    · rcases List.mem_append.1 he with he | he
      · exact .left hi ho (ih1.1 e he)
      · exact .right hi ho (ih2.1 e he)
    · rcases ih2.2 p hp with h | h
      · rcases ih1.2 p h with h | h
        · rcases ins_true.1 h with h | rfl
          · exact .inl h
          · exact .inr fun q hq => hq
        · exact .inr fun q hq => .left hi ho (h q hq)
      · exact .inr fun q hq => .right hi ho (h q hq)
  | save _ hi ho _ ih =>
    refine ⟨fun e he => .save hi ho (ih.1 e he), fun p hp => ?_⟩
    rcases ih.2 p hp with h | h
    · rcases ins_true.1 h with h | rfl
      · exact .inl h
      · exact .inr fun q hq => hq
    · exact .inr fun q hq => .save hi ho (h q hq)
  | stand _ hi h2 h3 h4 =>
    refine ⟨fun e he => by simp at he; subst he; exact .stand hi h2 h3 h4, fun p hp => ?_⟩
    rcases ins_true.1 hp with h | rfl
    · exact .inl h
    · exact .inr fun q hq => hq
/-- What comes through: of a way that stands; it hangs on where it stands alone. -/
structure Told {α : Type} (F : Th → Option α) (ok : Nat → Bool) : Prop where
  iff : ∀ pc caps, (F (pc, caps)).isSome = ok pc
/-- Nothing that comes through can be come to from here. -/
def Barren (c : List Ins) (ok : Nat → Bool) (p : Nat) : Prop := ∀ q, Eps c p q → ok q = false
/-- Where two rows of what was come to part, nothing comes through. -/
def Alike2 (c : List Ins) (ok : Nat → Bool) (s s0 : Nat → Bool) : Prop := ∀ p, s p ≠ s0 p → Barren c ok p
theorem alike_ins {ok : Nat → Bool} {s s0 : Nat → Bool} (h : Alike2 c ok s s0) (p : Nat) : Alike2 c ok (ins s p) (ins s0 p) := fun j hj => by
  refine h j fun e => hj ?_
  unfold ins; rw [e]
theorem told_none {α : Type} {F : Th → Option α} {ok : Nat → Bool} (hF : Told F ok) {pc : Nat} {caps : List Int} (h : ok pc = false) : F (pc, caps) = none := by
  have := hF.iff pc caps
  rw [h] at this
  cases hf : F (pc, caps) with
  | none => rfl
  | some x => rw [hf] at this; cases this
theorem barren_none {α : Type} {F : Th → Option α} {ok : Nat → Bool} (hF : Told F ok) {s s' : Nat → Bool} {pc : Nat} {caps : List Int} {L : List Th} (h : Fol c pos s pc caps s' L) (hb : Barren c ok pc) :
    L.findSome? F = none ∧ ∀ p, s' p = true → s p = true ∨ Barren c ok p := by
  obtain ⟨h1, h2⟩ := fol_from h
  refine ⟨List.findSome?_eq_none_iff.2 fun e he => told_none hF (hb _ (h1 e he)), fun p hp => ?_⟩
  rcases h2 p hp with h | h
  · exact .inl h
  · exact .inr fun q hq => hb q (h q hq)
/-- Two goes that part only where nothing comes through find the same. -/
theorem fol_same {α : Type} {F : Th → Option α} {ok : Nat → Bool} (hF : Told F ok) {s s' : Nat → Bool} {pc : Nat} {caps : List Int} {L : List Th} (h : Fol c pos s pc caps s' L) :
    ∀ {s0 s0' : Nat → Bool} {L0 : List Th}, Fol c pos s0 pc caps s0' L0 → Alike2 c ok s s0 → L.findSome? F = L0.findSome? F ∧ (L.findSome? F = none → Alike2 c ok s' s0') := by
  have leftOnly : ∀ {s s' s0 : Nat → Bool} {pc : Nat} {caps : List Int} {L : List Th}, Fol c pos s pc caps s' L → s pc = false → s0 pc = true → Alike2 c ok s s0 →
      L.findSome? F = none ∧ Alike2 c ok s' s0 := by
    intro s s' s0 pc caps L hf h1 h2 ha
    have hb : Barren c ok pc := ha pc (by rw [h1, h2]; decide)
    obtain ⟨a1, a2⟩ := barren_none hF hf hb
    refine ⟨a1, fun p hp => ?_⟩
    by_cases hs : s p = s0 p
    · cases hs' : s' p
      · have : s p = false := by
          cases hsp : s p
          · rfl
          · rw [fol_mono hf p hsp] at hs'; cases hs'
        rw [hs', ← hs, this] at hp
        exact absurd rfl hp
      · rcases a2 p hs' with h | h
        · rw [hs', ← hs, h] at hp; exact absurd rfl hp
        · exact h
    · exact ha p hs
  induction h with
  | @seen s pc caps hs =>
    intro s0 s0' L0 h0 ha
    cases hs0 : s0 pc
    · obtain ⟨a1, a2⟩ := leftOnly h0 hs0 hs (fun p hp => ha p (fun e => hp e.symm))
      exact ⟨a1.symm, fun _ p hp => a2 p (fun e => hp e.symm)⟩
    · cases h0 with
      | seen _ => exact ⟨rfl, fun _ => ha⟩
      | jump h _ _ _ => rw [hs0] at h; cases h
      | split h _ _ _ _ => rw [hs0] at h; cases h
      | save h _ _ _ => rw [hs0] at h; cases h
      | stand h _ _ _ _ => rw [hs0] at h; cases h
  | @jump s pc caps i s' L hs hi ho hf ih =>
    intro s0 s0' L0 h0 ha
    cases hs0 : s0 pc
    · cases h0 with
      | seen h => rw [hs0] at h; cases h
      | jump h hi' ho' hf' => rw [hi] at hi'; cases hi'; exact ih hf' (alike_ins ha pc)
      | split h hi' ho' _ _ => rw [hi] at hi'; cases hi'; rw [ho] at ho'; cases ho'
      | save h hi' ho' _ => rw [hi] at hi'; cases hi'; rw [ho] at ho'; cases ho'
      | stand h hi' h2 _ _ => rw [hi] at hi'; cases hi'; exact absurd ho h2
    · obtain ⟨a1, a2⟩ := leftOnly (.jump hs hi ho hf) hs hs0 ha
      cases h0 with
      | seen _ => exact ⟨a1, fun _ => a2⟩
      | jump h _ _ _ => rw [hs0] at h; cases h
      | split h _ _ _ _ => rw [hs0] at h; cases h
      | save h _ _ _ => rw [hs0] at h; cases h
      | stand h _ _ _ _ => rw [hs0] at h; cases h
  | @split s pc caps i s1 s2 L1 L2 hs hi ho hf1 hf2 ih1 ih2 =>
    intro s0 s0' L0 h0 ha
    cases hs0 : s0 pc
    · cases h0 with
      | seen h => rw [hs0] at h; cases h
      | jump h hi' ho' _ => rw [hi] at hi'; cases hi'; rw [ho] at ho'; cases ho'
      | split h hi' ho' hg1 hg2 =>
        rw [hi] at hi'; cases hi'
        obtain ⟨a1, a2⟩ := ih1 hg1 (alike_ins ha pc)
        rw [List.findSome?_append, List.findSome?_append, a1]
        rename_i t1 M1 M2
        cases hm : M1.findSome? F with
        | some x => exact ⟨rfl, fun e => by cases e⟩
        | none =>
          obtain ⟨b1, b2⟩ := ih2 hg2 (a2 (a1.trans hm))
          exact ⟨by rw [b1], fun e => b2 (by simpa using e)⟩
      | save h hi' ho' _ => rw [hi] at hi'; cases hi'; rw [ho] at ho'; cases ho'
      | stand h hi' _ h3 _ => rw [hi] at hi'; cases hi'; exact absurd ho h3
    · obtain ⟨a1, a2⟩ := leftOnly (.split hs hi ho hf1 hf2) hs hs0 ha
      cases h0 with
      | seen _ => exact ⟨a1, fun _ => a2⟩
      | jump h _ _ _ => rw [hs0] at h; cases h
      | split h _ _ _ _ => rw [hs0] at h; cases h
      | save h _ _ _ => rw [hs0] at h; cases h
      | stand h _ _ _ _ => rw [hs0] at h; cases h
  | @save s pc caps i s' L hs hi ho hf ih =>
    intro s0 s0' L0 h0 ha
    cases hs0 : s0 pc
    · cases h0 with
      | seen h => rw [hs0] at h; cases h
      | jump h hi' ho' _ => rw [hi] at hi'; cases hi'; rw [ho] at ho'; cases ho'
      | split h hi' ho' _ _ => rw [hi] at hi'; cases hi'; rw [ho] at ho'; cases ho'
      | save h hi' ho' hf' => rw [hi] at hi'; cases hi'; exact ih hf' (alike_ins ha pc)
      | stand h hi' _ _ h4 => rw [hi] at hi'; cases hi'; exact absurd ho h4
    · obtain ⟨a1, a2⟩ := leftOnly (.save hs hi ho hf) hs hs0 ha
      cases h0 with
      | seen _ => exact ⟨a1, fun _ => a2⟩
      | jump h _ _ _ => rw [hs0] at h; cases h
      | split h _ _ _ _ => rw [hs0] at h; cases h
      | save h _ _ _ => rw [hs0] at h; cases h
      | stand h _ _ _ _ => rw [hs0] at h; cases h
  | @stand s pc caps i hs hi h2 h3 h4 =>
    intro s0 s0' L0 h0 ha
    cases hs0 : s0 pc
    · cases h0 with
      | seen h => rw [hs0] at h; cases h
      | jump h hi' ho' _ => rw [hi] at hi'; cases hi'; exact absurd ho' h2
      | split h hi' ho' _ _ => rw [hi] at hi'; cases hi'; exact absurd ho' h3
      | save h hi' ho' _ => rw [hi] at hi'; cases hi'; exact absurd ho' h4
      | stand h hi' _ _ _ => exact ⟨rfl, fun _ => alike_ins ha pc⟩
    · obtain ⟨a1, a2⟩ := leftOnly (.stand (pos := pos) (caps := caps) hs hi h2 h3 h4) hs hs0 ha
      cases h0 with
      | seen _ => exact ⟨a1, fun _ => a2⟩
      | jump h _ _ _ => rw [hs0] at h; cases h
      | split h _ _ _ _ => rw [hs0] at h; cases h
      | save h _ _ _ => rw [hs0] at h; cases h
      | stand h _ _ _ _ => rw [hs0] at h; cases h
theorem fol_has {s s' : Nat → Bool} {pc : Nat} {caps : List Int} {L : List Th} (h : Fol c pos s pc caps s' L) : s' pc = true := by
  cases h with
  | seen h => exact h
  | jump _ _ _ h => exact fol_mono h pc (ins_true.2 (.inr rfl))
  | split _ _ _ h h2 => exact fol_mono h2 pc (fol_mono h pc (ins_true.2 (.inr rfl)))
  | save _ _ _ h => exact fol_mono h pc (ins_true.2 (.inr rfl))
  | stand _ _ _ _ _ => exact ins_true.2 (.inr rfl)
/-- All that an instruction leads to was come to. -/
def Done (c : List Ins) (s : Nat → Bool) (L : List Th) (p : Nat) : Prop := ∀ i, c[p]? = some i → (i.op = 2 → s i.x.toNat = true) ∧ (i.op = 3 → s i.x.toNat = true ∧ s i.y.toNat = true) ∧ (i.op = 4 → s (p + 1) = true) ∧ (i.op ≠ 2 → i.op ≠ 3 → i.op ≠ 4 → ∃ e ∈ L, e.1 = p)
theorem done_mono {s s' : Nat → Bool} {L L' : List Th} {p : Nat} (h : Done c s L p) (hs : ∀ p, s p = true → s' p = true) (hL : ∀ e ∈ L, e ∈ L') : Done c s' L' p := fun i hi => by
  obtain ⟨a1, a2, a3, a4⟩ := h i hi
  exact ⟨fun e => hs _ (a1 e), fun e => ⟨hs _ (a2 e).1, hs _ (a2 e).2⟩, fun e => hs _ (a3 e), fun e1 e2 e3 => by
    obtain ⟨e, he, h9⟩ := a4 e1 e2 e3
    exact ⟨e, hL e he, h9⟩⟩
theorem fol_done {s s' : Nat → Bool} {pc : Nat} {caps : List Int} {L : List Th} (h : Fol c pos s pc caps s' L) : ∀ p, s' p = true → s p = true ∨ Done c s' L p := by
  induction h with
  | seen _ => exact fun p h => .inl h
  | jump _ hi ho hf ih =>
    intro p hp
    rcases ih p hp with h | h
    · rcases ins_true.1 h with h | rfl
      · exact .inl h
      · refine .inr fun j hj => ?_
        rw [hi] at hj; cases hj
        exact ⟨fun _ => fol_has hf, (fun e => by rw [ho] at e; cases e), (fun e => by rw [ho] at e; cases e), fun e => absurd ho e⟩
    · exact .inr h
  | split _ hi ho hf1 hf2 ih1 ih2 =>
    intro p hp
    rcases ih2 p hp with h | h
    · rcases ih1 p h with h | h
      · rcases ins_true.1 h with h | rfl
        · exact .inl h
        · refine .inr fun j hj => ?_
          rw [hi] at hj; cases hj
          exact ⟨(fun e => by rw [ho] at e; cases e), fun _ => ⟨fol_mono hf2 _ (fol_has hf1), fol_has hf2⟩, (fun e => by rw [ho] at e; cases e), fun _ e => absurd ho e⟩
      · exact .inr (done_mono h (fol_mono hf2) (fun e he => List.mem_append_left _ he))
    · exact .inr (done_mono h (fun _ h => h) (fun e he => List.mem_append_right _ he))
  | save _ hi ho hf ih =>
    intro p hp
    rcases ih p hp with h | h
    · rcases ins_true.1 h with h | rfl
      · exact .inl h
      · refine .inr fun j hj => ?_
        rw [hi] at hj; cases hj
        exact ⟨(fun e => by rw [ho] at e; cases e), (fun e => by rw [ho] at e; cases e), fun _ => fol_has hf, fun _ _ e => absurd ho e⟩
    · exact .inr h
  | stand _ hi h2 h3 h4 =>
    intro p hp
    rcases ins_true.1 hp with h | rfl
    · exact .inl h
    · refine .inr fun j hj => ?_
      rw [hi] at hj; cases hj
      exact ⟨fun e => absurd e h2, fun e => absurd e h3, fun e => absurd e h4, fun _ _ _ => ⟨_, List.mem_singleton_self _, rfl⟩⟩
theorem fol_reach {s s' : Nat → Bool} {pc : Nat} {caps : List Int} {L : List Th} (h : Fol c pos s pc caps s' L) : ∀ p, s' p = true → ∀ q, Eps c p q → (∃ e ∈ L, e.1 = q) ∨ ∃ p0, s p0 = true ∧ Eps c p0 q := by
  intro p hp q hq
  induction hq with
  | stand hi h2 h3 h4 =>
    rcases fol_done h _ hp with h9 | h9
    · exact .inr ⟨_, h9, .stand hi h2 h3 h4⟩
    · exact .inl ((h9 _ hi).2.2.2 h2 h3 h4)
  | jump hi ho hq ih =>
    rcases fol_done h _ hp with h9 | h9
    · exact .inr ⟨_, h9, .jump hi ho hq⟩
    · exact ih ((h9 _ hi).1 ho)
  | left hi ho hq ih =>
    rcases fol_done h _ hp with h9 | h9
    · exact .inr ⟨_, h9, .left hi ho hq⟩
    · exact ih ((h9 _ hi).2.1 ho).1
  | right hi ho hq ih =>
    rcases fol_done h _ hp with h9 | h9
    · exact .inr ⟨_, h9, .right hi ho hq⟩
    · exact ih ((h9 _ hi).2.1 ho).2
  | save hi ho hq ih =>
    rcases fol_done h _ hp with h9 | h9
    · exact .inr ⟨_, h9, .save hi ho hq⟩
    · exact ih ((h9 _ hi).2.2.1 ho)
end
end Go.Proofs.YtdhmfgaiomfodaaDoor
namespace Go.Proofs.YtdhmfgaiomfodaaDoor
open Go Go.RowKit

def folF (c : List Ins) (pos : Int) : Nat → (Nat → Bool) → Nat → List Int → (Nat → Bool) × List Th
  | 0, s, _, _ => (s, [])
  | f + 1, s, pc, caps =>
    if s pc then (s, []) else
    match c[pc]? with
    | none => (ins s pc, [])
    | some i =>
      if i.op = 2 then folF c pos f (ins s pc) i.x.toNat caps
      else if i.op = 3 then
        ((folF c pos f (folF c pos f (ins s pc) i.x.toNat caps).1 i.y.toNat caps).1, (folF c pos f (ins s pc) i.x.toNat caps).2 ++ (folF c pos f (folF c pos f (ins s pc) i.x.toNat caps).1 i.y.toNat caps).2)
      else if i.op = 4 then folF c pos f (ins s pc) (pc + 1) (caps.set (i.n - 2).toNat pos)
      else (ins s pc, [(pc, caps)])
/-- Where instructions lead: never out of the program. -/
structure Closed (c : List Ins) : Prop where
  jump : ∀ (pc : Nat) (i : Ins), c[pc]? = some i → i.op = 2 → i.x.toNat < c.length
  split : ∀ (pc : Nat) (i : Ins), c[pc]? = some i → i.op = 3 → i.x.toNat < c.length ∧ i.y.toNat < c.length
  next : ∀ (pc : Nat) (i : Ins), c[pc]? = some i → i.op = 1 ∨ i.op = 4 → pc + 1 < c.length
/-- How many were not come to. -/
def un (c : List Ins) (s : Nat → Bool) : Nat := ((List.range c.length).filter fun j => !s j).length
theorem un_le (c : List Ins) (s : Nat → Bool) : un c s ≤ c.length := by
  unfold un
  have := List.length_filter_le (fun j => !s j) (List.range c.length)
  rwa [List.length_range] at this
theorem filter_less {p q : Nat → Bool} : ∀ {l : List Nat}, (∀ x ∈ l, q x = true → p x = true) → (l.filter q).length ≤ (l.filter p).length ∧ ((∃ x ∈ l, p x = true ∧ q x = false) → (l.filter q).length < (l.filter p).length) := by
  intro l
  induction l with
  | nil => intro _; exact ⟨Nat.le_refl _, fun ⟨x, hx, _⟩ => by cases hx⟩
  | cons a l ih =>
    intro h
    obtain ⟨h1, h2⟩ := ih (fun x hx => h x (List.mem_cons_of_mem _ hx))
    have ha := h a List.mem_cons_self
    rw [List.filter_cons, List.filter_cons]
    cases hq : q a <;> cases hp : p a
    · refine ⟨by simpa using h1, fun ⟨x, hx, e1, e2⟩ => ?_⟩
      rcases List.mem_cons.1 hx with rfl | hx
      · rw [hp] at e1; cases e1
      · simpa using h2 ⟨x, hx, e1, e2⟩
    · exact ⟨by simp; omega, fun _ => by simp; omega⟩
    · have := ha hq; rw [hp] at this; cases this
    · refine ⟨by simp; omega, fun ⟨x, hx, e1, e2⟩ => ?_⟩
      rcases List.mem_cons.1 hx with rfl | hx
      · rw [hq] at e2; cases e2
      · have := h2 ⟨x, hx, e1, e2⟩
        simp; omega
theorem un_ins {c : List Ins} {s : Nat → Bool} {p : Nat} (hp : p < c.length) (hs : s p = false) : un c (ins s p) < un c s := by
  refine (filter_less fun x _ hx => ?_).2 ⟨p, List.mem_range.2 hp, by rw [hs]; rfl, by unfold ins; simp⟩
  unfold ins at hx
  cases h : s x
  · rfl
  · rw [h] at hx; simp at hx
theorem un_mono {c : List Ins} {s s' : Nat → Bool} (h : ∀ p, s p = true → s' p = true) : un c s' ≤ un c s := by
  refine (filter_less fun x _ hx => ?_).1
  cases h1 : s x
  · rfl
  · rw [h x h1] at hx; simp at hx
section
variable {c : List Ins}
theorem folF_ok (hc : Closed c) (pos : Int) : ∀ f s pc caps, pc < c.length → un c s < f → Fol c pos s pc caps (folF c pos f s pc caps).1 (folF c pos f s pc caps).2 := by
  intro f
  induction f with
  | zero => intro s pc caps _ h; omega
  | succ f ih =>
    intro s pc caps hpc hf
    unfold folF
    cases hs : s pc
    · rw [if_neg (by simp), List.getElem?_eq_getElem hpc]
      dsimp only
      obtain ⟨i, hi⟩ : ∃ i, c[pc]'hpc = i := ⟨_, rfl⟩
      have hi' : c[pc]? = some i := by rw [List.getElem?_eq_getElem hpc, hi]
      have hu := un_ins hpc hs
      rw [hi]
      by_cases h2 : i.op = 2
      · rw [if_pos h2]
        exact .jump hs hi' h2 (ih _ _ _ (hc.jump pc i hi' h2) (by omega))
      rw [if_neg h2]
      by_cases h3 : i.op = 3
      · rw [if_pos h3]
        have a := ih (ins s pc) i.x.toNat caps (hc.split pc i hi' h3).1 (by omega)
        have hm := un_mono (c := c) (fol_mono a)
        exact .split hs hi' h3 a (ih _ _ _ (hc.split pc i hi' h3).2 (by omega))
      rw [if_neg h3]
      by_cases h4 : i.op = 4
      · rw [if_pos h4]
        exact .save hs hi' h4 (ih _ _ _ (hc.next pc i hi' (.inr h4)) (by omega))
      rw [if_neg h4]
      exact .stand hs hi' h2 h3 h4
    · rw [if_pos rfl]
      exact .seen hs
/-- There is but one way to go on; where it comes to hangs not on what was noted. -/
theorem fol_det {pos : Int} {s s' : Nat → Bool} {pc : Nat} {caps : List Int} {L : List Th} (h : Fol c pos s pc caps s' L) :
    ∀ {pos2 : Int} {caps2 : List Int} {s2 : Nat → Bool} {L2 : List Th}, Fol c pos2 s pc caps2 s2 L2 → s2 = s' ∧ L2.map (·.1) = L.map (·.1) ∧ (pos2 = pos → caps2 = caps → L2 = L) := by
  induction h with
  | seen hs =>
    intro pos2 caps2 s2 L2 h
    cases h with
    | seen _ => exact ⟨rfl, rfl, fun _ _ => rfl⟩
    | jump h _ _ _ => rw [hs] at h; cases h
    | split h _ _ _ _ => rw [hs] at h; cases h
    | save h _ _ _ => rw [hs] at h; cases h
    | stand h _ _ _ _ => rw [hs] at h; cases h
  | jump hs hi ho _ ih =>
    intro pos2 caps2 s2 L2 h
    cases h with
    | seen h => rw [hs] at h; cases h
    | jump _ hi' _ h' => rw [hi] at hi'; cases hi'; exact ih h'
    | split _ hi' ho' _ _ => rw [hi] at hi'; cases hi'; rw [ho] at ho'; cases ho'
    | save _ hi' ho' _ => rw [hi] at hi'; cases hi'; rw [ho] at ho'; cases ho'
    | stand _ hi' h2 _ _ => rw [hi] at hi'; cases hi'; exact absurd ho h2
  | split hs hi ho _ _ ih1 ih2 =>
    intro pos2 caps2 s2 L2 h
    cases h with
    | seen h => rw [hs] at h; cases h
    | jump _ hi' ho' _ => rw [hi] at hi'; cases hi'; rw [ho] at ho'; cases ho'
    | split _ hi' _ h1 h2 =>
      rw [hi] at hi'; cases hi'
      obtain ⟨rfl, a2, a3⟩ := ih1 h1
      obtain ⟨rfl, b2, b3⟩ := ih2 h2
      exact ⟨rfl, by rw [List.map_append, List.map_append, a2, b2], fun e1 e2 => by rw [a3 e1 e2, b3 e1 e2]⟩
    | save _ hi' ho' _ => rw [hi] at hi'; cases hi'; rw [ho] at ho'; cases ho'
    | stand _ hi' _ h3 _ => rw [hi] at hi'; cases hi'; exact absurd ho h3
  | save hs hi ho _ ih =>
    intro pos2 caps2 s2 L2 h
    cases h with
    | seen h => rw [hs] at h; cases h
    | jump _ hi' ho' _ => rw [hi] at hi'; cases hi'; rw [ho] at ho'; cases ho'
    | split _ hi' ho' _ _ => rw [hi] at hi'; cases hi'; rw [ho] at ho'; cases ho'
    | save _ hi' _ h' =>
      rw [hi] at hi'; cases hi'
      obtain ⟨a1, a2, a3⟩ := ih h'
      exact ⟨a1, a2, fun e1 e2 => a3 e1 (by rw [e1, e2])⟩
    | stand _ hi' _ _ h4 => rw [hi] at hi'; cases hi'; exact absurd ho h4
  | stand hs hi h2 h3 h4 =>
    intro pos2 caps2 s2 L2 h
    cases h with
    | seen h => rw [hs] at h; cases h
    | jump _ hi' ho' _ => rw [hi] at hi'; cases hi'; exact absurd ho' h2
    | split _ hi' ho' _ _ => rw [hi] at hi'; cases hi'; exact absurd ho' h3
    | save _ hi' ho' _ => rw [hi] at hi'; cases hi'; exact absurd ho' h4
    | stand _ _ _ _ _ => exact ⟨rfl, rfl, fun _ e => by rw [e]⟩
end
def none0 : Nat → Bool := fun _ => false
/-- Where a way stands that begins here, first to last. -/
def clo (c : List Ins) (pos : Int) (pc : Nat) (caps : List Int) : List Th := (folF c pos (c.length + 1) none0 pc caps).2
theorem clo_fol {c : List Ins} (hc : Closed c) (pos : Int) {pc : Nat} (caps : List Int) (h : pc < c.length) : ∃ s', Fol c pos none0 pc caps s' (clo c pos pc caps) :=
  ⟨_, folF_ok hc pos (c.length + 1) none0 pc caps h (by have := un_le c none0; omega)⟩
/-- The captures of the first way from one that stands here, before this text, that stands at a Match at the text's end. -/
def res (c : List Ins) : List UInt8 → Int → Th → Option (List Int)
  | [], _, th => match c[th.1]? with
    | none => none
    | some i => if i.op = 5 then some th.2 else none
  | b :: r, pos, th => match c[th.1]? with
    | none => none
    | some i => if i.op = 1 ∧ i.set b.toNat = true then (clo c (pos + 1) (th.1 + 1) th.2).findSome? (res c r (pos + 1)) else none
def okB (c : List Ins) (r : List UInt8) (pc : Nat) : Bool := (res c r 0 (pc, [])).isSome
theorem some_any {α β : Type} (F : α → Option β) (L : List α) : (L.findSome? F).isSome = L.any fun e => (F e).isSome := by
  induction L with
  | nil => rfl
  | cons a L ih =>
    rw [List.findSome?_cons, List.any_cons]
    cases h : F a with
    | none => simpa using ih
    | some x => rfl
theorem told_res {c : List Ins} (hc : Closed c) : ∀ (r : List UInt8) (pos pos2 : Int) (pc : Nat) (caps caps2 : List Int), (res c r pos (pc, caps)).isSome = (res c r pos2 (pc, caps2)).isSome := by
  intro r
  induction r with
  | nil =>
    intro pos pos2 pc caps caps2
    unfold res
    cases c[pc]? with
    | none => rfl
    | some i => dsimp only; split <;> rfl
  | cons b r ih =>
    intro pos pos2 pc caps caps2
    unfold res
    cases hi : c[pc]? with
    | none => rfl
    | some i =>
      dsimp only
      by_cases h : i.op = 1 ∧ i.set b.toNat = true
      · rw [if_pos h, if_pos h, some_any, some_any]
        have hlt := hc.next pc i hi (.inl h.1)
        obtain ⟨s1, f1⟩ := clo_fol hc (pos + 1) caps hlt
        obtain ⟨s2, f2⟩ := clo_fol hc (pos2 + 1) caps2 hlt
        have hm := (fol_det f1 f2).2.1
        have key : ∀ (L M : List Th), M.map (·.1) = L.map (·.1) → (L.any fun e => (res c r (pos + 1) e).isSome) = M.any fun e => (res c r (pos2 + 1) e).isSome := by
          intro L
          induction L with
          | nil => intro M hM; simp at hM; subst hM; rfl
          | cons a L ihL =>
            intro M hM
            cases M with
            | nil => simp at hM
            | cons m M =>
              simp only [List.map_cons, List.cons.injEq] at hM
              obtain ⟨a1, a2⟩ := a
              obtain ⟨m1, m2⟩ := m
              obtain ⟨e1, e2⟩ := hM
              dsimp only at e1
              subst e1
              rw [List.any_cons, List.any_cons, ihL M e2, ih (pos + 1) (pos2 + 1) m1 a2 m2]
        exact key _ _ hm
      · rw [if_neg h, if_neg h]
theorem told_ok {c : List Ins} (hc : Closed c) (r : List UInt8) (pos : Int) : Told (res c r pos) (okB c r) := ⟨fun pc caps => told_res hc r pos 0 pc caps []⟩

/-! ### Ways, one behind the other -/
abbrev Way := Nat × Int × List Int
def F3 (c : List Ins) (r : List UInt8) (pos : Int) (w : Way) : Option (Int × List Int) := (res c r pos (w.1, w.2.2)).map fun k => (w.2.1, k)
/-- What one that begins here finds by itself. -/
def fromHere (c : List Ins) (r : List UInt8) (pos : Int) (w : Way) : Option (Int × List Int) := ((clo c pos w.1 w.2.2).findSome? (res c r pos)).map fun k => (w.2.1, k)
inductive Seq (c : List Ins) (pos : Int) : (Nat → Bool) → List Way → (Nat → Bool) → List Way → Prop where
  | nil {s : Nat → Bool} : Seq c pos s [] s []
  | cons {s s1 s2 : Nat → Bool} {w : Way} {ws Ws : List Way} {L : List Th} : Fol c pos s w.1 w.2.2 s1 L → Seq c pos s1 ws s2 Ws → Seq c pos s (w :: ws) s2 (L.map (fun e => (e.1, w.2.1, e.2)) ++ Ws)
theorem find_map {c : List Ins} {r : List UInt8} {pos from_ : Int} (L : List Th) : (L.map fun e => (e.1, from_, e.2)).findSome? (F3 c r pos) = (L.findSome? (res c r pos)).map fun k => (from_, k) := by
  induction L with
  | nil => rfl
  | cons a L ih =>
    rw [List.map_cons, List.findSome?_cons, List.findSome?_cons, ih]
    have e : F3 c r pos (a.1, from_, a.2) = (res c r pos a).map fun k => (from_, k) := rfl
    rw [e]
    cases res c r pos a <;> rfl
def Dry (c : List Ins) (r : List UInt8) (s : Nat → Bool) : Prop := ∀ p, s p = true → Barren c (okB c r) p
theorem dry_alike {c : List Ins} {r : List UInt8} {s : Nat → Bool} (h : Dry c r s) : Alike2 c (okB c r) s none0 := fun p hp => by
  cases hs : s p
  · rw [hs] at hp; exact absurd rfl hp
  · exact h p hs
/-- The ways' list finds what each by itself finds, first to last. -/
theorem seq_same {c : List Ins} (hc : Closed c) {r : List UInt8} {pos : Int} {s s' : Nat → Bool} {ws Ws : List Way} (h : Seq c pos s ws s' Ws) (hd : Dry c r s) (hw : ∀ w ∈ ws, w.1 < c.length) :
    Ws.findSome? (F3 c r pos) = ws.findSome? (fromHere c r pos) ∧ (Ws.findSome? (F3 c r pos) = none → Dry c r s') := by
  induction h with
  | nil => exact ⟨rfl, fun _ => hd⟩
  | @cons s s1 s2 w ws Ws L hf _ ih =>
    obtain ⟨s0', hf0⟩ := clo_fol hc pos w.2.2 (hw w List.mem_cons_self)
    obtain ⟨a1, a2⟩ := fol_same (told_ok hc r pos) hf hf0 (dry_alike hd)
    rw [List.findSome?_append, List.findSome?_cons, find_map, a1]
    have hdry : (clo c pos w.1 w.2.2).findSome? (res c r pos) = none → Dry c r s1 := fun e p hp => by
      by_cases hp0 : s0' p = true
      · rcases (fol_from hf0).2 p hp0 with h | h
        · cases h
        · intro q hq
          -- what stands there stands in the list: it does not come through
          have hq' := fol_reach hf0 p hp0 q hq
          rcases hq' with ⟨e', he', rfl⟩ | ⟨p0, hp0', _⟩
          · have := List.findSome?_eq_none_iff.1 e e' he'
            rw [← (told_ok hc r pos).iff e'.1 e'.2, this]; rfl
          · cases hp0'
      · exact a2 (a1.trans e) p (by rw [hp]; cases h9 : s0' p; decide; exact absurd h9 hp0)
    have e0 : fromHere c r pos w = ((clo c pos w.1 w.2.2).findSome? (res c r pos)).map fun k => (w.2.1, k) := rfl
    rw [e0]
    cases hfs : (clo c pos w.1 w.2.2).findSome? (res c r pos) with
    | some x => exact ⟨rfl, fun e => by cases e⟩
    | none =>
      obtain ⟨b1, b2⟩ := ih (hdry hfs) (fun w hw' => hw w (List.mem_cons_of_mem _ hw'))
      refine ⟨?_, fun e => b2 (by simpa using e)⟩
      rw [← b1]; rfl
end Go.Proofs.YtdhmfgaiomfodaaDoor
namespace Go.Proofs.YtdhmfgaiomfodaaDoor
open Go Go.RowKit

section
variable {c : List Ins}
/-- The ways that a byte lets go on. -/
def moves (c : List Ins) (b : UInt8) (W : List Way) : List Way := W.filterMap fun w => match c[w.1]? with
  | none => none
  | some i => if i.op = 1 ∧ i.set b.toNat = true then some (w.1 + 1, w.2) else none
theorem moves_find (r : List UInt8) (b : UInt8) (pos : Int) (W : List Way) : (moves c b W).findSome? (fromHere c r (pos + 1)) = W.findSome? (F3 c (b :: r) pos) := by
  induction W with
  | nil => rfl
  | cons w W ih =>
    unfold moves at ih ⊢
    rw [List.filterMap_cons, List.findSome?_cons]
    have e : F3 c (b :: r) pos w = match c[w.1]? with
        | none => none
        | some i => if i.op = 1 ∧ i.set b.toNat = true then fromHere c r (pos + 1) (w.1 + 1, w.2) else none := by
      unfold F3 res
      cases c[w.1]? with
      | none => rfl
      | some i =>
        dsimp only
        split <;> rfl
    rw [e]
    cases hi : c[w.1]? with
    | none => simpa using ih
    | some i =>
      dsimp only
      by_cases h : i.op = 1 ∧ i.set b.toNat = true
      · rw [if_pos h, if_pos h]
        dsimp only
        rw [List.findSome?_cons, ih]
      · rw [if_neg h, if_neg h]
        simpa using ih
theorem moves_lt (hc : Closed c) (b : UInt8) (W : List Way) : ∀ w ∈ moves c b W, w.1 < c.length := by
  intro w hw
  unfold moves at hw
  obtain ⟨u, _, hu⟩ := List.mem_filterMap.1 hw
  cases hi : c[u.1]? with
  | none => rw [hi] at hu; cases hu
  | some i =>
    rw [hi] at hu
    dsimp only at hu
    by_cases h : i.op = 1 ∧ i.set b.toNat = true
    · rw [if_pos h] at hu
      cases hu
      exact hc.next _ i hi (.inl h.1)
    · rw [if_neg h] at hu; cases hu
/-- All that can be come to from what was come to stands in the list. -/
def Cover (c : List Ins) (s : Nat → Bool) (W : List Way) : Prop := ∀ p, s p = true → ∀ q, Eps c p q → ∃ w ∈ W, w.1 = q
theorem seq_cover {pos : Int} {s s' : Nat → Bool} {ws Ws : List Way} (h : Seq c pos s ws s' Ws) : ∀ W0, Cover c s W0 → Cover c s' (W0 ++ Ws) := by
  induction h with
  | nil => intro W0 h; rw [List.append_nil]; exact h
  | @cons s s1 s2 w ws Ws L hf _ ih =>
    intro W0 h0
    rw [← List.append_assoc]
    refine ih _ fun p hp q hq => ?_
    rcases fol_reach hf p hp q hq with ⟨e, he, rfl⟩ | ⟨p0, hp0, hq0⟩
    · exact ⟨_, List.mem_append_right _ (List.mem_map.2 ⟨e, he, rfl⟩), rfl⟩
    · obtain ⟨w', hw', e⟩ := h0 p0 hp0 q hq0
      exact ⟨w', List.mem_append_left _ hw', e⟩
theorem cover_dry (hc : Closed c) {r : List UInt8} {pos : Int} {s : Nat → Bool} {W : List Way} (h : Cover c s W) (hn : W.findSome? (F3 c r pos) = none) : Dry c r s := by
  intro p hp q hq
  obtain ⟨w, hw, rfl⟩ := h p hp q hq
  have h1 := List.findSome?_eq_none_iff.1 hn w hw
  unfold F3 at h1
  have h2 : res c r pos (w.1, w.2.2) = none := by
    cases h3 : res c r pos (w.1, w.2.2) with
    | none => rfl
    | some x => rw [h3] at h1; cases h1
  rw [← (told_ok hc r pos).iff w.1 w.2.2, h2]; rfl
/-- A way that begins here, if one begins. -/
def begs (bg : Bool) (pos : Int) (k : List Int) : List Way := if bg then [(0, pos, k)] else []
/-- The ways at a place, ahead of those that begin there. -/
inductive Stand (c : List Ins) (k : List Int) (base : Int) (txt : List UInt8) (bg : Nat → Bool) : Nat → (Nat → Bool) → List Way → Prop where
  | zero : Stand c k base txt bg 0 none0 []
  | next {j : Nat} {s s1 s2 : Nat → Bool} {W Ws W2 : List Way} {b : UInt8} : Stand c k base txt bg j s W → Seq c (base + j) s (begs (bg j) (base + j) k) s1 Ws → txt[j]? = some b →
      Seq c (base + (j + 1 : Nat)) none0 (moves c b (W ++ Ws)) s2 W2 → Stand c k base txt bg (j + 1) s2 W2
def one (c : List Ins) (k : List Int) (base : Int) (bg : Nat → Bool) (txt r : List UInt8) (f : Nat) : Option (Int × List Int) := if bg f then fromHere c (txt.drop f ++ r) (base + f) (0, base + f, k) else none
theorem begs_find {bg : Bool} {pos : Int} {k : List Int} (r : List UInt8) : (begs bg pos k).findSome? (fromHere c r pos) = if bg then fromHere c r pos (0, pos, k) else none := by
  unfold begs
  cases bg
  · rfl
  · simp only [if_true, List.findSome?_cons, List.findSome?_nil]
    cases fromHere c r pos (0, pos, k) <;> rfl
theorem findSome_congr {α β : Type} {F G : α → Option β} {L : List α} (h : ∀ x ∈ L, F x = G x) : L.findSome? F = L.findSome? G := by
  induction L with
  | nil => rfl
  | cons a L ih =>
    rw [List.findSome?_cons, List.findSome?_cons, h a List.mem_cons_self, ih fun x hx => h x (List.mem_cons_of_mem _ hx)]
theorem stand_begin (hc : Closed c) (h0 : 0 < c.length) {k : List Int} {base : Int} {txt : List UInt8} {bg : Nat → Bool} {j : Nat} {s s1 : Nat → Bool} {W Ws : List Way}
    (hcov : Cover c s W) (hW : ∀ r, W.findSome? (F3 c r (base + j)) = (List.range j).findSome? (one c k base bg (txt.take j) r)) (hj : j ≤ txt.length) (hs : Seq c (base + j) s (begs (bg j) (base + j) k) s1 Ws) :
    Cover c s1 (W ++ Ws) ∧ ∀ r, (W ++ Ws).findSome? (F3 c r (base + j)) = (List.range (j + 1)).findSome? (one c k base bg (txt.take j) r) := by
  refine ⟨seq_cover hs W hcov, fun r => ?_⟩
  rw [List.findSome?_append, List.range_succ, List.findSome?_append, ← hW r]
  cases hf : W.findSome? (F3 c r (base + j)) with
  | some x => rfl
  | none =>
    have hd := cover_dry hc hcov hf
    have hlt : ∀ w ∈ begs (bg j) (base + j) k, w.1 < c.length := by
      intro w hw
      unfold begs at hw
      split at hw
      · simp at hw; subst hw; exact h0
      · cases hw
    rw [(seq_same hc hs hd hlt).1, begs_find]
    have e : (txt.take j).drop j = [] := List.drop_eq_nil_of_le (by rw [List.length_take]; omega)
    simp only [List.findSome?_cons, List.findSome?_nil, Option.none_or, one, e, List.nil_append]
    cases hb : bg j
    · rfl
    · simp only [if_true]
      cases fromHere c r (base + j) (0, base + j, k) <;> rfl
/-- What the ways at a place find is what is found from each beginning. -/
theorem stand_law (hc : Closed c) (h0 : 0 < c.length) {k : List Int} {base : Int} {txt : List UInt8} {bg : Nat → Bool} {j : Nat} {s : Nat → Bool} {W : List Way} (h : Stand c k base txt bg j s W) :
    j ≤ txt.length ∧ Cover c s W ∧ ∀ r, W.findSome? (F3 c r (base + j)) = (List.range j).findSome? (one c k base bg (txt.take j) r) := by
  induction h with
  | zero => exact ⟨Nat.zero_le _, fun p hp => (by cases hp), fun r => rfl⟩
  | @next j s s1 s2 W Ws W2 b hst hs hb hs2 ih =>
    obtain ⟨i1, i2, i3⟩ := ih
    obtain ⟨b1, b2⟩ := stand_begin hc h0 i2 i3 i1 hs
    have hlt := (List.getElem?_eq_some_iff.1 hb).1
    refine ⟨by omega, ?_, fun r => ?_⟩
    · have := seq_cover hs2 [] (fun p hp => by cases hp)
      rwa [List.nil_append] at this
    · rw [(seq_same hc hs2 (r := r) (fun p hp => by cases hp) (moves_lt hc b _)).1]
      rw [show base + ((j + 1 : Nat) : Int) = base + (j : Int) + 1 by omega, moves_find, b2 (b :: r)]
      refine findSome_congr fun f hf => ?_
      have hfj : f ≤ j := by have := List.mem_range.1 hf; omega
      unfold one
      have e : (txt.take (j + 1)).drop f ++ r = (txt.take j).drop f ++ b :: r := by
        rw [List.take_add_one, hb]
        simp only [Option.toList_some]
        rw [List.drop_append_of_le_length (by rw [List.length_take]; omega), List.append_assoc]
        rfl
      rw [e]
/-- What is found at a place: where it began, its captures. -/
def hitAt (c : List Ins) (k : List Int) (base : Int) (bg : Nat → Bool) (txt : List UInt8) (j : Nat) : Option (Int × List Int) := (List.range (j + 1)).findSome? (one c k base bg (txt.take j) [])
theorem stand_hit (hc : Closed c) (h0 : 0 < c.length) {k : List Int} {base : Int} {txt : List UInt8} {bg : Nat → Bool} {j : Nat} {s s1 : Nat → Bool} {W Ws : List Way} (h : Stand c k base txt bg j s W)
    (hs : Seq c (base + j) s (begs (bg j) (base + j) k) s1 Ws) : (W ++ Ws).findSome? (F3 c [] (base + j)) = hitAt c k base bg txt j := by
  obtain ⟨i1, i2, i3⟩ := stand_law hc h0 h
  exact (stand_begin hc h0 i2 i3 i1 hs).2 []
end
end Go.Proofs.YtdhmfgaiomfodaaDoor
namespace Go.Proofs.YtdhmfgaiomfodaaDoor
open Go Go.RowKit

section
variable {c : List Ins}
end
end Go.Proofs.YtdhmfgaiomfodaaDoor
namespace Go.Proofs.YtdhmfgaiomfodaaDoor
open Go Go.RowKit

section
variable {c : List Ins}
/-- The first of the places that have one. -/
theorem first_some {α : Type} {n : Nat} {F : Nat → Option α} {x : α} (h : (List.range n).findSome? F = some x) : ∃ j, j < n ∧ F j = some x ∧ ∀ i, i < j → F i = none := by
  induction n with
  | zero => cases h
  | succ n ih =>
    rw [List.range_succ, List.findSome?_append] at h
    cases h1 : (List.range n).findSome? F with
    | some y =>
      rw [h1] at h
      have e : y = x := by simpa using h
      subst e
      obtain ⟨j, a, b, d⟩ := ih h1
      exact ⟨j, by omega, b, d⟩
    | none =>
      rw [h1] at h
      have e : F n = some x := by simpa using h
      refine ⟨n, by omega, e, fun i hi => ?_⟩
      exact List.findSome?_eq_none_iff.1 h1 i (List.mem_range.2 hi)
theorem first_is {α : Type} {n j : Nat} {F : Nat → Option α} {x : α} (hj : j < n) (h : F j = some x) (hl : ∀ i, i < j → F i = none) : (List.range n).findSome? F = some x := by
  induction n with
  | zero => omega
  | succ n ih =>
    rw [List.range_succ, List.findSome?_append]
    by_cases hn : j < n
    · rw [ih hn]; rfl
    · obtain rfl : j = n := by omega
      rw [List.findSome?_eq_none_iff.2 fun i hi => hl i (List.mem_range.1 hi)]
      simp [h]
theorem first_all {α : Type} {n : Nat} {F : Nat → Option α} (h : ∀ i, i < n → F i = none) : (List.range n).findSome? F = none := List.findSome?_eq_none_iff.2 fun i hi => h i (List.mem_range.1 hi)
def allB : Nat → Bool := fun _ => true
/-- The first match in a text: where it ends, where it began, its captures. -/
def findP (c : List Ins) (k : List Int) (txt : List UInt8) : Option (Nat × Int × List Int) := (List.range (txt.length + 1)).findSome? fun j => (hitAt c k 0 allB txt j).map fun h => (j, h)
theorem find_is {k : List Int} {txt : List UInt8} {j : Nat} {x : Int × List Int} (hj : j ≤ txt.length) (h : hitAt c k 0 allB txt j = some x) (hl : ∀ i, i < j → hitAt c k 0 allB txt i = none) : findP c k txt = some (j, x) :=
  first_is (n := txt.length + 1) (j := j) (F := fun j => (hitAt c k 0 allB txt j).map fun h => (j, h)) (by omega) (by rw [h]; rfl) (fun i hi => by rw [hl i hi]; rfl)
theorem find_not {k : List Int} {txt : List UInt8} (h : ∀ j, j ≤ txt.length → hitAt c k 0 allB txt j = none) : findP c k txt = none := first_all (n := txt.length + 1) (F := fun j => (hitAt c k 0 allB txt j).map fun h => (j, h)) fun i hi => by rw [h i (by omega)]; rfl
/-- What was found at a place began at or before it. -/
theorem hit_from {k : List Int} {base : Int} {bg : Nat → Bool} {txt : List UInt8} {j : Nat} {f : Int} {q : List Int} (h : hitAt c k base bg txt j = some (f, q)) :
    ∃ n : Nat, n ≤ j ∧ f = base + n ∧ bg n = true ∧ fromHere c ((txt.take j).drop n) (base + n) (0, base + n, k) = some (f, q) ∧ ∀ m, m < n → bg m = true → fromHere c ((txt.take j).drop m) (base + m) (0, base + m, k) = none := by
  obtain ⟨n, h1, h2, h3⟩ := first_some h
  have one_eq : ∀ m, bg m = true → one c k base bg (txt.take j) [] m = fromHere c ((txt.take j).drop m) (base + m) (0, base + m, k) := fun m hb => by
    unfold one; rw [hb, if_pos rfl, List.append_nil]
  cases hb : bg n
  · unfold one at h2; rw [hb] at h2; cases h2
  · rw [one_eq n hb] at h2
    refine ⟨n, by omega, ?_, hb, h2, fun m hm hbm => by rw [← one_eq m hbm]; exact h3 m hm⟩
    unfold fromHere at h2
    cases h4 : (clo c (base + n) (0, base + (n : Int), k).1 (0, base + (n : Int), k).2.2).findSome? (res c ((txt.take j).drop n) (base + n)) with
    | none => rw [h4] at h2; cases h2
    | some x => rw [h4] at h2; cases h2; rfl

/-! ### Captures -/
/-- What stands in these rows is what stood there or a place within. -/
def Caps (k : List Int) (lo hi : Int) (q : List Int) : Prop := q.length = k.length ∧ ∀ (i : Nat) (x : Int), q[i]? = some x → k[i]? = some x ∨ (lo ≤ x ∧ x ≤ hi)
theorem caps_refl (k : List Int) (lo hi : Int) : Caps k lo hi k := ⟨rfl, fun _ _ h => .inl h⟩
theorem caps_trans {k q r : List Int} {lo hi : Int} (h : Caps k lo hi q) (h' : Caps q lo hi r) : Caps k lo hi r :=
  ⟨h'.1.trans h.1, fun i x e => by rcases h'.2 i x e with e | e; exact h.2 i x e; exact .inr e⟩
theorem caps_mono {k q : List Int} {lo hi lo' hi' : Int} (h : Caps k lo hi q) (h1 : lo' ≤ lo) (h2 : hi ≤ hi') : Caps k lo' hi' q := ⟨h.1, fun i x e => by rcases h.2 i x e with e | e; exact .inl e; exact .inr (by omega)⟩
theorem caps_set (k : List Int) {lo hi pos : Int} (n : Nat) (h1 : lo ≤ pos) (h2 : pos ≤ hi) : Caps k lo hi (k.set n pos) := by
  refine ⟨List.length_set, fun i x e => ?_⟩
  rw [List.getElem?_set] at e
  by_cases h : n = i
  · rw [if_pos h] at e
    by_cases h9 : n < k.length
    · rw [if_pos h9] at e; cases e; exact .inr ⟨h1, h2⟩
    · rw [if_neg h9] at e; cases e
  · rw [if_neg h] at e; exact .inl e
theorem fol_caps {pos : Int} {s s' : Nat → Bool} {pc : Nat} {caps : List Int} {L : List Th} (h : Fol c pos s pc caps s' L) : ∀ e ∈ L, Caps caps pos pos e.2 := by
  induction h with
  | seen _ => intro e he; cases he
  | jump _ _ _ _ ih => exact ih
  | split _ _ _ _ _ ih1 ih2 => intro e he; rcases List.mem_append.1 he with he | he; exact ih1 e he; exact ih2 e he
  | save _ _ _ _ ih => exact fun e he => caps_trans (caps_set _ _ (Int.le_refl _) (Int.le_refl _)) (ih e he)
  | stand _ _ _ _ _ => intro e he; simp at he; subst he; exact caps_refl _ _ _
theorem clo_caps (hc : Closed c) (pos : Int) {pc : Nat} (caps : List Int) (h : pc < c.length) : ∀ e ∈ clo c pos pc caps, Caps caps pos pos e.2 := by
  obtain ⟨s, hf⟩ := clo_fol hc pos caps h
  exact fol_caps hf
theorem find_mem {α β : Type} {F : α → Option β} {L : List α} {x : β} (h : L.findSome? F = some x) : ∃ a ∈ L, F a = some x := by
  induction L with
  | nil => cases h
  | cons a L ih =>
    rw [List.findSome?_cons] at h
    cases ha : F a with
    | some y => rw [ha] at h; cases h; exact ⟨a, List.mem_cons_self, ha⟩
    | none =>
      rw [ha] at h
      obtain ⟨b, hb, e⟩ := ih h
      exact ⟨b, List.mem_cons_of_mem _ hb, e⟩
theorem res_caps (hc : Closed c) : ∀ (r : List UInt8) (pos : Int) (th : Th) (q : List Int), res c r pos th = some q → Caps th.2 pos (pos + r.length) q := by
  intro r
  induction r with
  | nil =>
    intro pos th q h
    unfold res at h
    cases hi : c[th.1]? with
    | none => rw [hi] at h; cases h
    | some i =>
      rw [hi] at h
      dsimp only at h
      by_cases h5 : i.op = 5
      · rw [if_pos h5] at h; cases h; exact caps_refl _ _ _
      · rw [if_neg h5] at h; cases h
  | cons b r ih =>
    intro pos th q h
    unfold res at h
    cases hi : c[th.1]? with
    | none => rw [hi] at h; cases h
    | some i =>
      rw [hi] at h
      dsimp only at h
      by_cases h5 : i.op = 1 ∧ i.set b.toNat = true
      · rw [if_pos h5] at h
        obtain ⟨e, he, hr⟩ := find_mem h
        have h1 := ih (pos + 1) e q hr
        have h2 := clo_caps hc (pos + 1) th.2 (hc.next _ i hi (.inl h5.1)) e he
        refine caps_trans (caps_mono h2 (by omega) ?_) (caps_mono h1 (by omega) ?_) <;> (simp only [List.length_cons]; omega)
      · rw [if_neg h5] at h; cases h
theorem here_caps (hc : Closed c) (h0 : 0 < c.length) {w : List UInt8} {pos f f' : Int} {k q : List Int} (h : fromHere c w pos (0, f, k) = some (f', q)) : f' = f ∧ Caps k pos (pos + w.length) q := by
  unfold fromHere at h
  cases h4 : (clo c pos (0, f, k).1 (0, f, k).2.2).findSome? (res c w pos) with
  | none => rw [h4] at h; cases h
  | some x =>
    rw [h4] at h
    cases h
    obtain ⟨e, he, hr⟩ := find_mem h4
    refine ⟨rfl, caps_trans (caps_mono (clo_caps hc pos k h0 e he) (Int.le_refl _) (by omega)) (res_caps hc w pos e _ hr)⟩
theorem hit_caps (hc : Closed c) (h0 : 0 < c.length) {k : List Int} {base : Int} {bg : Nat → Bool} {txt : List UInt8} {j : Nat} {f : Int} {q : List Int} (hj : j ≤ txt.length) (h : hitAt c k base bg txt j = some (f, q)) :
    Caps k f (base + j) q := by
  obtain ⟨n, h1, h2, h3, h4, h5⟩ := hit_from h
  have h6 := (here_caps hc h0 h4).2
  rw [h2]
  refine caps_mono h6 (Int.le_refl _) ?_
  simp only [List.length_drop, List.length_take]
  omega

/-! ### Nothing ends earlier, nothing begins earlier -/
end
end Go.Proofs.YtdhmfgaiomfodaaDoor
namespace Go.Proofs.YtdhmfgaiomfodaaDoor
open Go Go.RowKit

section
variable {c : List Ins}
end

/-- A tree's program. -/
def progT (t : T) : List Ins := codeT t 0 ++ [iMatch]
theorem progT_len (t : T) : (progT t).length = lenT t + 1 := by unfold progT; rw [List.length_append, codeT_len]; rfl
theorem progT_pos (t : T) : 0 < (progT t).length := by rw [progT_len]; omega
theorem progT_get {t : T} (hr : (t.right 1 0).1 = true) {pc : Nat} {i : Ins} (h : (progT t)[pc]? = some i) : (pc < lenT t ∧ i.good (lenT t : Nat) 2 (2 * ((t.groups : Nat) : Int) + 1)) ∨ (pc = lenT t ∧ i = iMatch) := by
  have hl := codeT_len t 0
  unfold progT at h
  by_cases hp : pc < lenT t
  · rw [List.getElem?_append_left (by omega)] at h
    have := codeT_good t 1 0 0 hr i (List.mem_of_getElem? h)
    exact .inl ⟨hp, good_mono this (by omega) (by omega) (by omega)⟩
  · rw [List.getElem?_append_right (by omega)] at h
    have h1 := (List.getElem?_eq_some_iff.1 h).1
    simp only [List.length_singleton] at h1
    have e : pc = lenT t := by omega
    subst e
    rw [hl, Nat.sub_self] at h
    cases h
    exact .inr ⟨rfl, rfl⟩
theorem progT_closed {t : T} (hr : (t.right 1 0).1 = true) : Closed (progT t) := by
  have hl := progT_len t
  refine ⟨fun pc i hi ho => ?_, fun pc i hi ho => ?_, fun pc i hi ho => ?_⟩
  · rcases progT_get hr hi with ⟨_, h | h | h | h⟩ | ⟨_, rfl⟩
    · rw [h.1] at ho; cases ho
    · have h1 := h.2.1; have h2 := h.2.2.1; omega
    · rw [h.1] at ho; cases ho
    · rw [h.1] at ho; cases ho
    · cases ho
  · rcases progT_get hr hi with ⟨_, h | h | h | h⟩ | ⟨_, rfl⟩
    · rw [h.1] at ho; cases ho
    · rw [h.1] at ho; cases ho
    · have h1 := h.2.1; have h2 := h.2.2.1; have h3 := h.2.2.2.1; have h4 := h.2.2.2.2.1; omega
    · rw [h.1] at ho; cases ho
    · cases ho
  · rcases progT_get hr hi with ⟨h, _⟩ | ⟨_, rfl⟩
    · omega
    · rcases ho with ho | ho <;> cases ho
end Go.Proofs.YtdhmfgaiomfodaaDoor
namespace Go.Proofs.YtdhmfgaiomfodaaDoor
open Go Go.RowKit

section
variable {c : List Ins}
/-- A capture moved. -/
def sh (d x : Int) : Int := if x < 0 then x else x + d
end
end Go.Proofs.YtdhmfgaiomfodaaDoor
namespace Go.Proofs.YtdhmfgaiomfodaaDoor
open Go Go.RowKit

theorem fol_count {c : List Ins} {pos : Int} {s s' : Nat → Bool} {pc : Nat} {caps : List Int} {L : List Th} (h : Fol c pos s pc caps s' L) : L.length + un c s' ≤ un c s := by
  have lt : ∀ {pc : Nat} {i : Ins}, c[pc]? = some i → pc < c.length := fun h => (List.getElem?_eq_some_iff.1 h).1
  induction h with
  | seen _ => simp
  | jump h hi _ _ ih => have := un_ins (lt hi) h; omega
  | split h hi _ _ _ ih1 ih2 => have := un_ins (lt hi) h; rw [List.length_append]; omega
  | save h hi _ _ ih => have := un_ins (lt hi) h; omega
  | stand h hi _ _ _ => have := un_ins (lt hi) h; simp; omega
/-- What was come to in this turn. -/
def seenB (sv : List Int) (turn : Int) : Nat → Bool := fun i => sv[i]? == some turn
theorem seenB_true {sv : List Int} {turn : Int} {i : Nat} : seenB sv turn i = true ↔ sv[i]? = some turn := by unfold seenB; exact beq_iff_eq
theorem seenB_set {sv : List Int} {turn : Int} {p : Nat} (h : p < sv.length) : seenB (sv.set p turn) turn = ins (seenB sv turn) p := by
  funext i
  rw [Bool.eq_iff_iff, seenB_true, ins_true, seenB_true, List.getElem?_set]
  by_cases e : p = i
  · subst e; rw [if_pos rfl, if_pos h]; simp
  · rw [if_neg e]
    constructor
    · exact .inl
    · rintro (h | h)
      · exact h
      · exact absurd h.symm e
theorem seenB_new {sv : List Int} {turn : Int} (h : ∀ x ∈ sv, x < turn) : seenB sv turn = none0 := by
  funext i
  cases hb : seenB sv turn i
  · rfl
  · have := h turn (List.mem_of_getElem? (seenB_true.1 hb)); omega
theorem set_le {sv : List Int} {turn : Int} (h : ∀ x ∈ sv, x ≤ turn) (p : Nat) : ∀ x ∈ sv.set p turn, x ≤ turn := fun x hx => by
  rcases List.mem_or_eq_of_mem_set hx with hx | hx
  · exact h x hx
  · omega
/-- A right program, of so many groups. -/
structure RightC (c : List Ins) (G : Nat) : Prop where
  pos : 0 < c.length
  most : c.length ≤ 400
  few : G ≤ 9
  closed : Closed c
  op : ∀ (pc : Nat) (i : Ins), c[pc]? = some i → 1 ≤ i.op ∧ i.op ≤ 5 ∧ 0 ≤ i.x ∧ 0 ≤ i.y ∧ i.x < c.length ∧ i.y < c.length ∧ (i.op = 4 → 2 ≤ i.n ∧ i.n ≤ 2 * (G : Int) + 1)
theorem progT_right {t : T} (hr : (t.right 1 0).1 = true) (h : lenT t ≤ 399) (hg : t.groups ≤ 9) : RightC (progT t) t.groups := by
  refine ⟨progT_pos t, by rw [progT_len]; omega, hg, progT_closed hr, fun pc i hi => ?_⟩
  have hl := progT_len t
  rcases progT_get hr hi with ⟨_, h | h | h | h⟩ | ⟨_, rfl⟩
  · obtain ⟨a, b, d, e⟩ := h; rw [a, b, d]; refine ⟨by omega, by omega, by omega, by omega, by omega, by omega, fun h => by omega⟩
  · obtain ⟨a, b, d, e, f, _⟩ := h; rw [a, e]; refine ⟨by omega, by omega, by omega, by omega, by omega, by omega, fun h => by omega⟩
  · obtain ⟨a, b, d, e, f, _⟩ := h; rw [a]; refine ⟨by omega, by omega, by omega, by omega, by omega, by omega, fun h => by omega⟩
  · obtain ⟨a, b, d, e, f, _⟩ := h; rw [a, b, d]; refine ⟨by omega, by omega, by omega, by omega, by omega, by omega, fun h => ⟨by omega, by omega⟩⟩
  · exact ⟨show (1 : Int) ≤ 5 by omega, show (5 : Int) ≤ 5 by omega, show (0 : Int) ≤ 0 by omega, show (0 : Int) ≤ 0 by omega, show (0 : Int) < _ by omega, show (0 : Int) < _ by omega, fun h => absurd (show (5 : Int) = 4 from h) (by omega)⟩
end Go.Proofs.YtdhmfgaiomfodaaDoor
