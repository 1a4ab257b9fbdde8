/- Put together: Nf0, Sm0, Sm1, Sm2, Sm3, Sm4, Sm5, Sm6, Sm7. -/
import Derived.Test.YtdhmfgaiomfodaaDoorUMn1
import Derived.Test.YtdhmfgaiomfodaaDoorUMn2
namespace Go.Proofs.YtdhmfgaiomfodaaDoor
open Go Go.RowKit

/-- An instruction. -/
structure Ins where
  op : Int
  x : Int
  y : Int
  n : Int
  set : Nat → Bool
def iByte (p : Nat → Bool) : Ins := ⟨1, 0, 0, 0, p⟩
def iJump (x : Nat) : Ins := ⟨2, x, 0, 0, fun _ => false⟩
def iSplit (x y : Nat) (z : Bool) : Ins := if z then ⟨3, y, x, 0, fun _ => false⟩ else ⟨3, x, y, 0, fun _ => false⟩
def iSave (n : Int) : Ins := ⟨4, 0, 0, n, fun _ => false⟩
def iMatch : Ins := ⟨5, 0, 0, 0, fun _ => false⟩
mutual
def codeT : T → Nat → List Ins
  | .node k m z p ks, a =>
    if k = 2 then [iByte p]
    else if k = 3 then codeCat ks a
    else if k = 4 then codeAlt ks a
    else if k = 5 then iSplit (a + 1) (a + (codeHead ks (a + 1)).length + 2) z :: (codeHead ks (a + 1) ++ [iJump a])
    else if k = 7 then iSplit (a + 1) (a + (codeHead ks (a + 1)).length + 1) z :: codeHead ks (a + 1)
    else if k = 6 then codeHead ks a ++ [iSplit a (a + (codeHead ks a).length + 1) z]
    else if k = 8 then iSave (2 * m) :: (codeHead ks (a + 1) ++ [iSave (2 * m + 1)])
    else []
def codeCat : List T → Nat → List Ins
  | [], _ => []
  | t :: ts, a => codeT t a ++ codeCat ts (a + (codeT t a).length)
def codeAlt : List T → Nat → List Ins
  | [], _ => []
  | t :: ts, a =>
    if ts.isEmpty then codeT t a
    else iSplit (a + 1) (a + (codeT t (a + 1)).length + 2) false :: (codeT t (a + 1) ++ (iJump (a + (codeT t (a + 1)).length + 2 + (codeAlt ts (a + (codeT t (a + 1)).length + 2)).length) :: codeAlt ts (a + (codeT t (a + 1)).length + 2)))
def codeHead : List T → Nat → List Ins
  | [], _ => []
  | t :: _, a => codeT t a
end

mutual
/-- How many instructions. -/
def lenT : T → Nat
  | .node k _ _ _ ks => if k = 2 then 1 else if k = 3 then lenC ks else if k = 4 then lenA ks else if k = 5 then lenH ks + 2 else if k = 7 then lenH ks + 1 else if k = 6 then lenH ks + 1 else if k = 8 then lenH ks + 2 else 0
def lenC : List T → Nat
  | [] => 0
  | t :: ts => lenT t + lenC ts
def lenA : List T → Nat
  | [] => 0
  | t :: ts => if ts.isEmpty then lenT t else lenT t + 2 + lenA ts
def lenH : List T → Nat
  | [] => 0
  | t :: _ => lenT t
end
mutual
theorem codeT_len : ∀ (t : T) (a : Nat), (codeT t a).length = lenT t
  | .node k m z p ks, a => by
    have hC := codeCat_len ks a
    have hA := codeAlt_len ks a
    have hH := codeHead_len ks a
    have hH1 := codeHead_len ks (a + 1)
    unfold codeT lenT
    (repeat' split) <;> simp_all
theorem codeCat_len : ∀ (ts : List T) (a : Nat), (codeCat ts a).length = lenC ts
  | [], _ => by simp [codeCat, lenC]
  | t :: ts, a => by
    have h1 := codeT_len t a
    have h2 := codeCat_len ts (a + (codeT t a).length)
    simp only [codeCat, lenC, List.length_append, h1] at h2 ⊢
    rw [h2]
theorem codeAlt_len : ∀ (ts : List T) (a : Nat), (codeAlt ts a).length = lenA ts
  | [], _ => by simp [codeAlt, lenA]
  | t :: ts, a => by
    have h1 := codeT_len t a
    have h2 := codeT_len t (a + 1)
    have h3 := codeAlt_len ts (a + (codeT t (a + 1)).length + 2)
    unfold codeAlt lenA
    split
    · exact h1
    · rw [List.length_cons, List.length_append, List.length_cons, h3, h2]; omega
theorem codeHead_len : ∀ (ts : List T) (a : Nat), (codeHead ts a).length = lenH ts
  | [], _ => by simp [codeHead, lenH]
  | t :: _, a => by simp only [codeHead, lenH]; exact codeT_len t a
end
mutual
theorem lenT_le : ∀ t : T, t.good → lenT t + 2 ≤ 3 * t.size
  | .node k m z p ks => by
    intro hg
    unfold T.good at hg
    have hC := lenC_le ks hg.2.2.2
    have hA := lenA_le ks hg.2.2.2
    have hs := size_node k m z p ks
    have hH : 5 ≤ k → lenH ks + 2 ≤ 3 * sizeL ks := fun h5 => lenH_le ks (hg.2.2.1 h5) hg.2.2.2
    rw [hs]
    unfold lenT
    by_cases k2 : k = 2
    · rw [if_pos k2]; omega
    rw [if_neg k2]
    by_cases k3 : k = 3
    · rw [if_pos k3]; omega
    rw [if_neg k3]
    by_cases k4 : k = 4
    · rw [if_pos k4]; omega
    rw [if_neg k4]
    by_cases k5 : k = 5
    · rw [if_pos k5]; have := hH (by omega); omega
    rw [if_neg k5]
    by_cases k7 : k = 7
    · rw [if_pos k7]; have := hH (by omega); omega
    rw [if_neg k7]
    by_cases k6 : k = 6
    · rw [if_pos k6]; have := hH (by omega); omega
    rw [if_neg k6]
    by_cases k8 : k = 8
    · rw [if_pos k8]; have := hH (by omega); omega
    rw [if_neg k8]; omega
theorem lenC_le : ∀ ts : List T, goodL ts → lenC ts ≤ 3 * sizeL ts
  | [] => by intro _; simp [lenC, sizeL]
  | t :: ts => by
    intro hg
    unfold goodL at hg
    have h1 := lenT_le t hg.1
    have h2 := lenC_le ts hg.2
    simp only [lenC, sizeL]; omega
theorem lenA_le : ∀ ts : List T, goodL ts → lenA ts ≤ 3 * sizeL ts
  | [] => by intro _; simp [lenA, sizeL]
  | t :: ts => by
    intro hg
    unfold goodL at hg
    have h1 := lenT_le t hg.1
    have h2 := lenA_le ts hg.2
    simp only [lenA, sizeL]
    split <;> omega
theorem lenH_le : ∀ ts : List T, ts ≠ [] → goodL ts → lenH ts + 2 ≤ 3 * sizeL ts
  | [] => by intro h; exact absurd rfl h
  | t :: ts => by
    intro _ hg
    unfold goodL at hg
    have h1 := lenT_le t hg.1
    simp only [lenH, sizeL]; omega
end

/-- An instruction with what its kind has alone, that leads no further than many, and saves within these. -/
def Ins.good (i : Ins) (many lo hi : Int) : Prop :=
  (i.op = 1 ∧ i.x = 0 ∧ i.y = 0 ∧ i.n = 0) ∨ (i.op = 2 ∧ 0 ≤ i.x ∧ i.x ≤ many ∧ i.y = 0 ∧ i.n = 0 ∧ i.set = fun _ => false) ∨
  (i.op = 3 ∧ 0 ≤ i.x ∧ i.x ≤ many ∧ 0 ≤ i.y ∧ i.y ≤ many ∧ i.n = 0 ∧ i.set = fun _ => false) ∨ (i.op = 4 ∧ i.x = 0 ∧ i.y = 0 ∧ lo ≤ i.n ∧ i.n ≤ hi ∧ i.set = fun _ => false)
theorem good_mono {i : Ins} {a b lo hi lo' hi' : Int} (h : i.good a lo hi) (hab : a ≤ b) (hl : lo' ≤ lo) (hh : hi ≤ hi') : i.good b lo' hi' := by
  rcases h with h | h | h | h
  · exact .inl h
  · exact .inr (.inl ⟨h.1, h.2.1, by omega, h.2.2.2⟩)
  · exact .inr (.inr (.inl ⟨h.1, h.2.1, by omega, h.2.2.2.1, by omega, h.2.2.2.2.2⟩))
  · exact .inr (.inr (.inr ⟨h.1, h.2.1, h.2.2.1, by omega, by omega, h.2.2.2.2.2⟩))
theorem good_jump {x : Nat} {a lo hi : Int} (h : (x : Int) ≤ a) : (iJump x).good a lo hi := .inr (.inl ⟨rfl, Int.natCast_nonneg x, h, rfl, rfl, rfl⟩)
theorem good_split {x y : Nat} {z : Bool} {a lo hi : Int} (h : (x : Int) ≤ a) (h' : (y : Int) ≤ a) : (iSplit x y z).good a lo hi := by
  cases z
  · exact .inr (.inr (.inl ⟨rfl, Int.natCast_nonneg x, h, Int.natCast_nonneg y, h', rfl, rfl⟩))
  · exact .inr (.inr (.inl ⟨rfl, Int.natCast_nonneg y, h', Int.natCast_nonneg x, h, rfl, rfl⟩))
theorem good_save {n a lo hi : Int} (h : lo ≤ n) (h' : n ≤ hi) : (iSave n).good a lo hi := .inr (.inr (.inr ⟨rfl, rfl, rfl, h, h', rfl⟩))
theorem good_byte {p : Nat → Bool} {a lo hi : Int} : (iByte p).good a lo hi := .inl ⟨rfl, rfl, rfl, rfl⟩

mutual
/-- Behind a right tree there are so many groups more. -/
theorem right_more : ∀ (t : T) (d g : Nat), (t.right d g).1 = true → (t.right d g).2 = g + t.groups
  | .node k m z p ks, d, g => by
    intro h
    have hL := rightL_more ks (d + 1) (if k = 8 then g + 1 else g)
    unfold T.right at h ⊢
    unfold T.groups
    split at h
    · cases h
    · rename_i h1
      rw [if_neg h1]
      split at h
      · cases h
      · rename_i h2
        rw [if_neg h2]
        simp only [Bool.and_eq_true] at h
        rw [hL h.1]
        split <;> omega
theorem rightL_more : ∀ (ts : List T) (d g : Nat), (rightL ts d g).1 = true → (rightL ts d g).2 = g + groupsL ts
  | [], _, _ => by intro _; simp [rightL, groupsL]
  | t :: ts, d, g => by
    intro h
    have h1 := right_more t d g
    unfold rightL at h ⊢
    unfold groupsL
    split at h
    · rename_i h2
      rw [if_pos h2]
      have h3 := h1 h2
      rw [rightL_more ts d _ h, h3]; omega
    · cases h
end
mutual
/-- The instructions of a right tree are right. -/
theorem codeT_good : ∀ (t : T) (d g a : Nat), (t.right d g).1 = true → ∀ i ∈ codeT t a, i.good ((a + lenT t : Nat) : Int) (2 * ((g : Int) + 1)) (2 * ((g + t.groups : Nat) : Int) + 1)
  | .node k m z p ks, d, g, a => by
    intro h
    have hL : (rightL ks (d + 1) (if k = 8 then g + 1 else g)).1 = true ∧ (k = 8 → m = (g : Int) + 1) := by
      unfold T.right at h
      split at h
      · cases h
      · split at h
        · cases h
        · rename_i h2
          simp only [Bool.and_eq_true] at h
          exact ⟨h.1, fun e => by
            by_cases hm : m = (g : Int) + 1
            · exact hm
            · exact absurd ⟨e, hm⟩ h2⟩
    have hgr : (T.node k m z p ks).groups = (if k = 8 then 1 else 0) + groupsL ks := by unfold T.groups; rfl
    rw [hgr]
    have hlen1 := codeHead_len ks (a + 1)
    have hlen0 := codeHead_len ks a
    by_cases k8 : k = 8
    · subst k8
      have hm := hL.2 rfl
      have hl := hL.1
      rw [if_pos rfl] at hl ⊢
      have hH := codeHead_good ks (d + 1) (g + 1) (a + 1) hl
      simp [codeT, lenT]
      refine ⟨good_save (by omega) (by omega), fun i hi => ?_⟩
      rcases hi with hi | hi
      · exact good_mono (hH i hi) (by omega) (by omega) (by omega)
      · subst hi; exact good_save (by omega) (by omega)
    · rw [if_neg k8] at hL ⊢
      have hl := hL.1
      have hC := codeCat_good ks (d + 1) g a hl
      have hA := codeAlt_good ks (d + 1) g a hl
      have hH0 := codeHead_good ks (d + 1) g a hl
      have hH1 := codeHead_good ks (d + 1) g (a + 1) hl
      unfold codeT lenT
      by_cases k2 : k = 2
      · rw [if_pos k2, if_pos k2]; intro i hi; simp at hi; subst hi; exact good_byte
      rw [if_neg k2, if_neg k2]
      by_cases k3 : k = 3
      · rw [if_pos k3, if_pos k3]; exact fun i hi => good_mono (hC i hi) (by omega) (by omega) (by omega)
      rw [if_neg k3, if_neg k3]
      by_cases k4 : k = 4
      · rw [if_pos k4, if_pos k4]; exact fun i hi => good_mono (hA i hi) (by omega) (by omega) (by omega)
      rw [if_neg k4, if_neg k4]
      by_cases k5 : k = 5
      · rw [if_pos k5, if_pos k5]
        intro i hi
        rcases List.mem_cons.1 hi with rfl | hi
        · exact good_split (by omega) (by omega)
        rcases List.mem_append.1 hi with hi | hi
        · exact good_mono (hH1 i hi) (by omega) (by omega) (by omega)
        · simp at hi; subst hi; exact good_jump (by omega)
      rw [if_neg k5, if_neg k5]
      by_cases k7 : k = 7
      · rw [if_pos k7, if_pos k7]
        intro i hi
        rcases List.mem_cons.1 hi with rfl | hi
        · exact good_split (by omega) (by omega)
        · exact good_mono (hH1 i hi) (by omega) (by omega) (by omega)
      rw [if_neg k7, if_neg k7]
      by_cases k6 : k = 6
      · rw [if_pos k6, if_pos k6]
        intro i hi
        rcases List.mem_append.1 hi with hi | hi
        · exact good_mono (hH0 i hi) (by omega) (by omega) (by omega)
        · simp at hi; subst hi; exact good_split (by omega) (by omega)
      rw [if_neg k6, if_neg k6, if_neg k8]
      intro i hi; cases hi
theorem codeCat_good : ∀ (ts : List T) (d g a : Nat), (rightL ts d g).1 = true → ∀ i ∈ codeCat ts a, i.good ((a + lenC ts : Nat) : Int) (2 * ((g : Int) + 1)) (2 * ((g + groupsL ts : Nat) : Int) + 1)
  | [], _, _, _ => by intro _ i hi; simp [codeCat] at hi
  | t :: ts, d, g, a => by
    intro h
    have h1 := codeT_good t d g a
    have hlen := codeT_len t a
    have hmore := right_more t d g
    unfold rightL at h
    split at h
    · rename_i h2
      have h3 := codeCat_good ts d (t.right d g).2 (a + (codeT t a).length) h
      rw [hmore h2] at h3
      intro i hi
      simp only [codeCat] at hi
      simp only [lenC, groupsL]
      rcases List.mem_append.1 hi with hi | hi
      · exact good_mono (h1 h2 i hi) (by omega) (by omega) (by omega)
      · exact good_mono (h3 i hi) (by omega) (by omega) (by omega)
    · cases h
theorem codeAlt_good : ∀ (ts : List T) (d g a : Nat), (rightL ts d g).1 = true → ∀ i ∈ codeAlt ts a, i.good ((a + lenA ts : Nat) : Int) (2 * ((g : Int) + 1)) (2 * ((g + groupsL ts : Nat) : Int) + 1)
  | [], _, _, _ => by intro _ i hi; simp [codeAlt] at hi
  | t :: ts, d, g, a => by
    intro h
    have h1 := codeT_good t d g a
    have h1' := codeT_good t d g (a + 1)
    have hlen := codeT_len t (a + 1)
    have hmore := right_more t d g
    unfold rightL at h
    split at h
    · rename_i h2
      have h3 := codeAlt_good ts d (t.right d g).2 (a + (codeT t (a + 1)).length + 2) h
      have h4 := codeAlt_len ts (a + (codeT t (a + 1)).length + 2)
      rw [hmore h2] at h3
      intro i hi
      unfold codeAlt at hi
      unfold lenA groupsL
      split at hi
      · rename_i he
        rw [if_pos he]
        exact good_mono (h1 h2 i hi) (by omega) (by omega) (by omega)
      · rename_i he
        rw [if_neg he]
        rcases List.mem_cons.1 hi with rfl | hi
        · exact good_split (by omega) (by omega)
        rcases List.mem_append.1 hi with hi | hi
        · exact good_mono (h1' h2 i hi) (by omega) (by omega) (by omega)
        rcases List.mem_cons.1 hi with rfl | hi
        · exact good_jump (by omega)
        · exact good_mono (h3 i hi) (by omega) (by omega) (by omega)
    · cases h
theorem codeHead_good : ∀ (ts : List T) (d g a : Nat), (rightL ts d g).1 = true → ∀ i ∈ codeHead ts a, i.good ((a + lenH ts : Nat) : Int) (2 * ((g : Int) + 1)) (2 * ((g + groupsL ts : Nat) : Int) + 1)
  | [], _, _, _ => by intro _ i hi; simp [codeHead] at hi
  | t :: ts, d, g, a => by
    intro h
    have h1 := codeT_good t d g a
    unfold rightL at h
    split at h
    · rename_i h2
      intro i hi
      simp only [codeHead] at hi
      simp only [lenH, groupsL]
      exact good_mono (h1 h2 i hi) (by omega) (by omega) (by omega)
    · cases h
end
end Go.Proofs.YtdhmfgaiomfodaaDoor
namespace Go.Proofs.YtdhmfgaiomfodaaDoor
open Go Go.RowKit

abbrev Th := Nat × List Int
def ins (s : Nat → Bool) (p : Nat) : Nat → Bool := fun j => s j || j == p
/-- A way goes on until it stands: from an instruction, where some were come to before. -/
inductive Fol (c : List Ins) (pos : Int) : (Nat → Bool) → Nat → List Int → (Nat → Bool) → List Th → Prop where
  | seen {s : Nat → Bool} {pc : Nat} {caps : List Int} : s pc = true → Fol c pos s pc caps s []
  | jump {s : Nat → Bool} {pc : Nat} {caps : List Int} {i : Ins} {s' : Nat → Bool} {L : List Th} : s pc = false → c[pc]? = some i → i.op = 2 → Fol c pos (ins s pc) i.x.toNat caps s' L → Fol c pos s pc caps s' L
  | split {s : Nat → Bool} {pc : Nat} {caps : List Int} {i : Ins} {s1 s2 : Nat → Bool} {L1 L2 : List Th} : s pc = false → c[pc]? = some i → i.op = 3 → Fol c pos (ins s pc) i.x.toNat caps s1 L1 → Fol c pos s1 i.y.toNat caps s2 L2 → Fol c pos s pc caps s2 (L1 ++ L2)
  | save {s : Nat → Bool} {pc : Nat} {caps : List Int} {i : Ins} {s' : Nat → Bool} {L : List Th} : s pc = false → c[pc]? = some i → i.op = 4 → Fol c pos (ins s pc) (pc + 1) (caps.set (i.n - 2).toNat pos) s' L → Fol c pos s pc caps s' L
  | stand {s : Nat → Bool} {pc : Nat} {caps : List Int} {i : Ins} : s pc = false → c[pc]? = some i → i.op ≠ 2 → i.op ≠ 3 → i.op ≠ 4 → Fol c pos s pc caps (ins s pc) [(pc, caps)]
section
variable {c : List Ins} {pos : Int}
end
end Go.Proofs.YtdhmfgaiomfodaaDoor
namespace Go.Proofs.YtdhmfgaiomfodaaDoor
open Go Go.RowKit

def folF (c : List Ins) (pos : Int) : Nat → (Nat → Bool) → Nat → List Int → (Nat → Bool) × List Th
  | 0, s, _, _ => (s, [])
  | f + 1, s, pc, caps =>
    if s pc then (s, []) else
    match c[pc]? with
    | none => (ins s pc, [])
    | some i =>
      if i.op = 2 then folF c pos f (ins s pc) i.x.toNat caps
      else if i.op = 3 then
        ((folF c pos f (folF c pos f (ins s pc) i.x.toNat caps).1 i.y.toNat caps).1, (folF c pos f (ins s pc) i.x.toNat caps).2 ++ (folF c pos f (folF c pos f (ins s pc) i.x.toNat caps).1 i.y.toNat caps).2)
      else if i.op = 4 then folF c pos f (ins s pc) (pc + 1) (caps.set (i.n - 2).toNat pos)
      else (ins s pc, [(pc, caps)])
/-- Where instructions lead: never out of the program. -/
structure Closed (c : List Ins) : Prop where
  jump : ∀ (pc : Nat) (i : Ins), c[pc]? = some i → i.op = 2 → i.x.toNat < c.length
  split : ∀ (pc : Nat) (i : Ins), c[pc]? = some i → i.op = 3 → i.x.toNat < c.length ∧ i.y.toNat < c.length
  next : ∀ (pc : Nat) (i : Ins), c[pc]? = some i → i.op = 1 ∨ i.op = 4 → pc + 1 < c.length
section
variable {c : List Ins}
end
def none0 : Nat → Bool := fun _ => false
/-- Where a way stands that begins here, first to last. -/
def clo (c : List Ins) (pos : Int) (pc : Nat) (caps : List Int) : List Th := (folF c pos (c.length + 1) none0 pc caps).2
/-- The captures of the first way from one that stands here, before this text, that stands at a Match at the text's end. -/
def res (c : List Ins) : List UInt8 → Int → Th → Option (List Int)
  | [], _, th => match c[th.1]? with
    | none => none
    | some i => if i.op = 5 then some th.2 else none
  | b :: r, pos, th => match c[th.1]? with
    | none => none
    | some i => if i.op = 1 ∧ i.set b.toNat = true then (clo c (pos + 1) (th.1 + 1) th.2).findSome? (res c r (pos + 1)) else none
/-! ### Ways, one behind the other -/
abbrev Way := Nat × Int × List Int
/-- What one that begins here finds by itself. -/
def fromHere (c : List Ins) (r : List UInt8) (pos : Int) (w : Way) : Option (Int × List Int) := ((clo c pos w.1 w.2.2).findSome? (res c r pos)).map fun k => (w.2.1, k)
end Go.Proofs.YtdhmfgaiomfodaaDoor
namespace Go.Proofs.YtdhmfgaiomfodaaDoor
open Go Go.RowKit

section
variable {c : List Ins}
def one (c : List Ins) (k : List Int) (base : Int) (bg : Nat → Bool) (txt r : List UInt8) (f : Nat) : Option (Int × List Int) := if bg f then fromHere c (txt.drop f ++ r) (base + f) (0, base + f, k) else none
end
end Go.Proofs.YtdhmfgaiomfodaaDoor
namespace Go.Proofs.YtdhmfgaiomfodaaDoor
open Go Go.RowKit

section
variable {c : List Ins}
end
end Go.Proofs.YtdhmfgaiomfodaaDoor
namespace Go.Proofs.YtdhmfgaiomfodaaDoor
open Go Go.RowKit

section
variable {c : List Ins}
/-! ### Captures -/
/-! ### Nothing ends earlier, nothing begins earlier -/
end
end Go.Proofs.YtdhmfgaiomfodaaDoor
namespace Go.Proofs.YtdhmfgaiomfodaaDoor
open Go Go.RowKit

section
variable {c : List Ins}
end

/-- A tree's program. -/
def progT (t : T) : List Ins := codeT t 0 ++ [iMatch]
theorem progT_len (t : T) : (progT t).length = lenT t + 1 := by unfold progT; rw [List.length_append, codeT_len]; rfl
theorem progT_pos (t : T) : 0 < (progT t).length := by rw [progT_len]; omega
theorem progT_get {t : T} (hr : (t.right 1 0).1 = true) {pc : Nat} {i : Ins} (h : (progT t)[pc]? = some i) : (pc < lenT t ∧ i.good (lenT t : Nat) 2 (2 * ((t.groups : Nat) : Int) + 1)) ∨ (pc = lenT t ∧ i = iMatch) := by
  have hl := codeT_len t 0
  unfold progT at h
  by_cases hp : pc < lenT t
  · rw [List.getElem?_append_left (by omega)] at h
    have := codeT_good t 1 0 0 hr i (List.mem_of_getElem? h)
    exact .inl ⟨hp, good_mono this (by omega) (by omega) (by omega)⟩
  · rw [List.getElem?_append_right (by omega)] at h
    have h1 := (List.getElem?_eq_some_iff.1 h).1
    simp only [List.length_singleton] at h1
    have e : pc = lenT t := by omega
    subst e
    rw [hl, Nat.sub_self] at h
    cases h
    exact .inr ⟨rfl, rfl⟩
theorem progT_closed {t : T} (hr : (t.right 1 0).1 = true) : Closed (progT t) := by
  have hl := progT_len t
  refine ⟨fun pc i hi ho => ?_, fun pc i hi ho => ?_, fun pc i hi ho => ?_⟩
  · rcases progT_get hr hi with ⟨_, h | h | h | h⟩ | ⟨_, rfl⟩
    · rw [h.1] at ho; cases ho
    · have h1 := h.2.1; have h2 := h.2.2.1; omega
    · rw [h.1] at ho; cases ho
    · rw [h.1] at ho; cases ho
    · cases ho
  · rcases progT_get hr hi with ⟨_, h | h | h | h⟩ | ⟨_, rfl⟩
    · rw [h.1] at ho; cases ho
    · rw [h.1] at ho; cases ho
    · have h1 := h.2.1; have h2 := h.2.2.1; have h3 := h.2.2.2.1; have h4 := h.2.2.2.2.1; omega
    · rw [h.1] at ho; cases ho
    · cases ho
  · rcases progT_get hr hi with ⟨h, _⟩ | ⟨_, rfl⟩
    · omega
    · rcases ho with ho | ho <;> cases ho
end Go.Proofs.YtdhmfgaiomfodaaDoor
namespace Go.Proofs.YtdhmfgaiomfodaaDoor
open Go Go.RowKit

section
variable {c : List Ins}
/-- A capture moved. -/
def sh (d x : Int) : Int := if x < 0 then x else x + d
end
end Go.Proofs.YtdhmfgaiomfodaaDoor
namespace Go.Proofs.YtdhmfgaiomfodaaDoor
open Go Go.RowKit

/-- What was come to in this turn. -/
def seenB (sv : List Int) (turn : Int) : Nat → Bool := fun i => sv[i]? == some turn
/-- A right program, of so many groups. -/
structure RightC (c : List Ins) (G : Nat) : Prop where
  pos : 0 < c.length
  most : c.length ≤ 400
  few : G ≤ 9
  closed : Closed c
  op : ∀ (pc : Nat) (i : Ins), c[pc]? = some i → 1 ≤ i.op ∧ i.op ≤ 5 ∧ 0 ≤ i.x ∧ 0 ≤ i.y ∧ i.x < c.length ∧ i.y < c.length ∧ (i.op = 4 → 2 ≤ i.n ∧ i.n ≤ 2 * (G : Int) + 1)
theorem progT_right {t : T} (hr : (t.right 1 0).1 = true) (h : lenT t ≤ 399) (hg : t.groups ≤ 9) : RightC (progT t) t.groups := by
  refine ⟨progT_pos t, by rw [progT_len]; omega, hg, progT_closed hr, fun pc i hi => ?_⟩
  have hl := progT_len t
  rcases progT_get hr hi with ⟨_, h | h | h | h⟩ | ⟨_, rfl⟩
  · obtain ⟨a, b, d, e⟩ := h; rw [a, b, d]; refine ⟨by omega, by omega, by omega, by omega, by omega, by omega, fun h => by omega⟩
  · obtain ⟨a, b, d, e, f, _⟩ := h; rw [a, e]; refine ⟨by omega, by omega, by omega, by omega, by omega, by omega, fun h => by omega⟩
  · obtain ⟨a, b, d, e, f, _⟩ := h; rw [a]; refine ⟨by omega, by omega, by omega, by omega, by omega, by omega, fun h => by omega⟩
  · obtain ⟨a, b, d, e, f, _⟩ := h; rw [a, b, d]; refine ⟨by omega, by omega, by omega, by omega, by omega, by omega, fun h => ⟨by omega, by omega⟩⟩
  · exact ⟨show (1 : Int) ≤ 5 by omega, show (5 : Int) ≤ 5 by omega, show (0 : Int) ≤ 0 by omega, show (0 : Int) ≤ 0 by omega, show (0 : Int) < _ by omega, show (0 : Int) < _ by omega, fun h => absurd (show (5 : Int) = 4 from h) (by omega)⟩
end Go.Proofs.YtdhmfgaiomfodaaDoor
