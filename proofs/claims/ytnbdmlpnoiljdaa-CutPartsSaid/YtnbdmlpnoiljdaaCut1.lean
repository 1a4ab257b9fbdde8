/- layer 39: events in memory; size, right, part. -/
import Derived.Test.YtnbdmlpnoiljdaaEv
import Derived.Test.YtnbdmlpnoiljdaaOff
import Derived.Test.YtnbdmlpnoiljdaaInts
import Derived.Test.YtnbdmlpnoiljdaaOb
import Derived.Test.YtnbdmlpnoiljdaaCatB
import Derived.Handy
namespace Go.Proofs.Ytnbdmlpnoiljdaa
open Go Go.RowKit

/-- A slice of one-cell elements that reads as these cells and lies in none of the blocks X. -/
def RdG (w : World) (X : List Nat) (v : Value) (cs : List Value) : Prop :=
  ∃ A n c, v = .slice A n c ∧ n ≤ c ∧ c ≤ maxLen ∧ Rd w 1 A n cs ∧ (0 < n → ∀ b o s, A = some ⟨b, o, s⟩ → b ∉ X)
theorem RdG.nil {w : World} {X : List Nat} : RdG w X (.slice none 0 0) [] := ⟨none, 0, 0, rfl, Nat.le_refl _, by unfold maxLen; omega, Rd.nil, fun h => by omega⟩
theorem RdG.step {w w' : World} {X Y X' : List Nat} {v : Value} {cs : List Value} (h : RdG w X v cs) (hc : Chg Y w w') (hy : ∀ y ∈ Y, y ∈ X ∨ w.heap.size ≤ y) (hx : ∀ x ∈ X', x ∈ X ∨ w.heap.size ≤ x) : RdG w' X' v cs := by
  obtain ⟨A, n, c, rfl, h1, h2, h3, h4⟩ := h
  have hl : cs.length = n := by simpa using h3.1
  have hlt : 0 < n → ∀ b o s, A = some ⟨b, o, s⟩ → b < w.heap.size := fun hp b o s e => by
    obtain ⟨b', o', e', hlt, _⟩ := h3.2 (by omega)
    rw [e] at e'
    cases e'
    exact hlt
  refine ⟨A, n, c, rfl, h1, h2, h3.chg hc (fun hp b o s e hb => ?_), fun hp b o s e hb => ?_⟩
  · rcases hy b hb with hb | hb
    · exact h4 (by omega) b o s e hb
    · have := hlt (by omega) b o s e; omega
  · rcases hx b hb with hb | hb
    · exact h4 hp b o s e hb
    · have := hlt hp b o s e; omega
theorem RdG.keep {w w' : World} {X : List Nat} {v : Value} {cs : List Value} (h : RdG w X v cs) (hb : Ext w w') : RdG w' X v cs := h.step (Y := []) (.of_ext hb) (by simp) (fun _ hx => .inl hx)
theorem RdG.sub {w : World} {X X' : List Nat} {v : Value} {cs : List Value} (h : RdG w X v cs) (hx : ∀ x ∈ X', x ∈ X ∨ w.heap.size ≤ x) : RdG w X' v cs := h.step (.refl [] w) (by simp) hx
theorem own_rdg {w : World} {base : Nat} {e : TypeId} {v : Value} {n : Nat} {cs : List Value} {X : List Nat} (h : w.ownsRow base e 1 v n cs) (hx : ∀ k, v.ownBlock = some k → k ∉ X) : RdG w X v cs := by
  obtain ⟨A, c, rfl, h1, h2, h3⟩ := own_rd h
  refine ⟨A, _, c, rfl, h1, h2, h3, fun hp b o s e => hx b (by rw [e]; rfl)⟩

def evV (e : Ev) (vb vm : Value) : List Value := [.int .i64 e.kind, .int .i64 e.n, vb, vm]
structure EvOk (w : World) (X : List Nat) (e : Ev) (vb vm : Value) : Prop where
  b : RdG w X vb (bytesV e.b)
  m : RdG w X vm (intsV e.m)
theorem EvOk.step {w w' : World} {X Y X' : List Nat} {e : Ev} {vb vm : Value} (h : EvOk w X e vb vm) (hc : Chg Y w w') (hy : ∀ y ∈ Y, y ∈ X ∨ w.heap.size ≤ y) (hx : ∀ x ∈ X', x ∈ X ∨ w.heap.size ≤ x) : EvOk w' X' e vb vm := ⟨h.b.step hc hy hx, h.m.step hc hy hx⟩
theorem EvOk.keep {w w' : World} {X : List Nat} {e : Ev} {vb vm : Value} (h : EvOk w X e vb vm) (hb : Ext w w') : EvOk w' X e vb vm := ⟨h.b.keep hb, h.m.keep hb⟩
theorem EvOk.open {w : World} {X : List Nat} {e : Ev} {vb vm : Value} (h : EvOk w X e vb vm) : ∃ A c B d, vb = .slice A e.b.length c ∧ vm = .slice B e.m.length d ∧ e.b.length ≤ c ∧ c ≤ maxLen ∧ e.m.length ≤ d ∧ d ≤ maxLen ∧ Rd w 1 A e.b.length (bytesV e.b) ∧ Rd w 1 B e.m.length (intsV e.m) := by
  obtain ⟨⟨A, n, c, rfl, h1, h2, h3, _⟩, ⟨B, m, d, rfl, k1, k2, k3, _⟩⟩ := h
  have hn := h3.len_bytes
  have hm := k3.len_ints
  subst hn hm
  exact ⟨A, c, B, d, rfl, rfl, h1, h2, k1, k2, h3, k3⟩
theorem Try.elemEv : Elem Try.prog 22 43 (.agg #[.int .i64 0, .int .i64 0, .slice none 0 0, .slice none 0 0]) 4 64 := ⟨Try.underlying22, by kernel_rfl, rfl, by omega⟩

def evCells : List Ev → List (Value × Value) → List Value
  | e :: es, v :: vs => evV e v.1 v.2 ++ evCells es vs
  | _, _ => []
theorem evCells_len : ∀ (es : List Ev) (vs : List (Value × Value)) (_ : vs.length = es.length), (evCells es vs).length = es.length * 4 := by
  intro es
  induction es with
  | nil => intro vs h; simp [evCells]
  | cons e es ih =>
    intro vs h
    cases vs with
    | nil => simp at h
    | cons v vs => simp [evCells, evV, ih vs (by simpa using h)]; omega
theorem evCells_snoc : ∀ (es : List Ev) (vs : List (Value × Value)) (_ : vs.length = es.length) (e : Ev) (v : Value × Value), evCells (es ++ [e]) (vs ++ [v]) = evCells es vs ++ evV e v.1 v.2 := by
  intro es
  induction es with
  | nil => intro vs h e v; cases vs with
    | nil => rfl
    | cons _ _ => simp at h
  | cons x es ih =>
    intro vs h e v
    cases vs with
    | nil => simp at h
    | cons y vs => simp [evCells, ih vs (by simpa using h)]
theorem evCells_get : ∀ (es : List Ev) (vs : List (Value × Value)) (j : Nat) (e : Ev) (v : Value × Value) (_ : es[j]? = some e) (_ : vs[j]? = some v) (i : Nat) (_ : i < 4), (evCells es vs)[j * 4 + i]? = (evV e v.1 v.2)[i]? := by
  intro es
  induction es with
  | nil => intro vs j e v h; simp at h
  | cons x es ih =>
    intro vs j e v h1 h2 i hi
    cases vs with
    | nil => simp at h2
    | cons y vs =>
      cases j with
      | zero =>
        simp at h1 h2
        subst h1 h2
        simp only [evCells, Nat.zero_mul, Nat.zero_add]
        rw [List.getElem?_append_left (by simp [evV]; omega)]
      | succ j =>
        simp only [evCells]
        rw [List.getElem?_append_right (by simp [evV]; omega)]
        simp only [evV, List.length_cons, List.length_nil]
        rw [show (j + 1) * 4 + i - (0 + 1 + 1 + 1 + 1) = j * 4 + i by omega]
        exact ih vs j e v (by simpa using h1) (by simpa using h2) i hi

/-- A slice of events that reads. -/
def EvsRd (w : World) (X : List Nat) (A : Option Addr) (n : Nat) (es : List Ev) : Prop :=
  ∃ vs : List (Value × Value), vs.length = es.length ∧ es.length = n ∧ Rd w 4 A n (evCells es vs) ∧ ∀ (j : Nat) (e : Ev) (v : Value × Value), es[j]? = some e → vs[j]? = some v → EvOk w X e v.1 v.2
theorem EvsRd.keep {w w' : World} {X : List Nat} {A : Option Addr} {n : Nat} {es : List Ev} (h : EvsRd w X A n es) (hb : Ext w w') : EvsRd w' X A n es := by
  obtain ⟨vs, h1, h2, h3, h4⟩ := h
  exact ⟨vs, h1, h2, h3.keep hb, fun j e v he hv => (h4 j e v he hv).keep hb⟩
/-- An event of it: its four cells, in this world and those that come of it. -/
theorem EvsRd.get {w : World} {X : List Nat} {A : Option Addr} {n : Nat} {es : List Ev} (h : EvsRd w X A n es) {k : Nat} {e : Ev} (hk : es[k]? = some e) :
    ∃ b o vb vm, A = some ⟨b, o, none⟩ ∧ b < w.heap.size ∧ w.cell? ⟨b, o + k * 4, none⟩ = some (.int .i64 e.kind) ∧ w.cell? ⟨b, o + (k * 4 + 1), none⟩ = some (.int .i64 e.n) ∧ w.cell? ⟨b, o + (k * 4 + 2), none⟩ = some vb ∧ w.cell? ⟨b, o + (k * 4 + 3), none⟩ = some vm ∧ EvOk w X e vb vm := by
  obtain ⟨vs, h1, h2, h3, h4⟩ := h
  have hkl : k < es.length := (List.getElem?_eq_some_iff.1 hk).1
  have hl := evCells_len es vs h1
  obtain ⟨b, o, rfl, hb, hc⟩ := h3.2 (by omega)
  obtain ⟨v, hv⟩ : ∃ v, vs[k]? = some v := ⟨_, List.getElem?_eq_getElem (by omega)⟩
  have hg := evCells_get es vs k e v hk hv
  refine ⟨b, o, v.1, v.2, rfl, hb, hc _ _ (hg 0 (by omega)), hc _ _ (hg 1 (by omega)), hc _ _ (hg 2 (by omega)), hc _ _ (hg 3 (by omega)), h4 k e v hk hv⟩

/-- A row of events of one's own, which lie apart from it and from X. -/
def OutAt (w : World) (B : Nat) (X : List Nat) (v : Value) (es : List Ev) : Prop :=
  ∃ vs : List (Value × Value), vs.length = es.length ∧ w.ownsRow B 43 4 v es.length (evCells es vs) ∧ (∀ k, v.ownBlock = some k → k ∉ X) ∧ ∀ (j : Nat) (e : Ev) (u : Value × Value), es[j]? = some e → vs[j]? = some u → EvOk w (v.ownBlock.toList ++ X) e u.1 u.2
theorem OutAt.nil (w : World) (B : Nat) (X : List Nat) : OutAt w B X (.slice none 0 0) [] := ⟨[], rfl, World.ownsRow_nil _ _ _ _, by simp [Value.ownBlock], fun j e u h => by simp at h⟩
theorem OutAt.len {w : World} {B : Nat} {X : List Nat} {v : Value} {es : List Ev} (h : OutAt w B X v es) : ∃ A c, v = .slice A es.length c ∧ es.length ≤ c ∧ c ≤ maxLen := by
  obtain ⟨vs, h1, h2, h3, h4⟩ := h
  obtain ⟨A, c, h5, h6, h7, _⟩ := own_rd h2
  exact ⟨A, c, h5, h6, h7⟩
theorem OutAt.own_lt {w : World} {B : Nat} {X : List Nat} {v : Value} {es : List Ev} (h : OutAt w B X v es) : ∀ k, v.ownBlock = some k → B ≤ k ∧ k < w.heap.size := by
  obtain ⟨vs, _, h2, _⟩ := h
  exact h2.lt
theorem OutAt.rd {w : World} {B : Nat} {X : List Nat} {v : Value} {es : List Ev} (h : OutAt w B X v es) : ∃ A c, v = .slice A es.length c ∧ es.length ≤ c ∧ c ≤ maxLen ∧ EvsRd w X A es.length es := by
  obtain ⟨vs, h1, h2, h3, h4⟩ := h
  obtain ⟨A, c, h5, h6, h7, h8⟩ := own_rd h2
  exact ⟨A, c, h5, h6, h7, vs, h1, rfl, h8, fun j e u he hu => ⟨((h4 j e u he hu).b).sub (fun x hx => .inl (by simp [hx])), ((h4 j e u he hu).m).sub (fun x hx => .inl (by simp [hx]))⟩⟩
theorem OutAt.chg {w w' : World} {B : Nat} {X Y : List Nat} {v : Value} {es : List Ev} (h : OutAt w B X v es) (hc : Chg Y w w') (hy : ∀ y ∈ Y, y ∈ X) : OutAt w' B X v es := by
  obtain ⟨vs, h1, h2, h3, h4⟩ := h
  exact ⟨vs, h1, own_chg h2 hc (fun k hk hm => h3 k hk (hy k hm)), h3, fun j e u he hu => (h4 j e u he hu).step hc (fun y h => .inl (by simp [hy y h])) (fun x h => .inl h)⟩
theorem OutAt.keep {w w' : World} {B : Nat} {X : List Nat} {v : Value} {es : List Ev} (h : OutAt w B X v es) (hb : Ext w w') : OutAt w' B X v es := h.chg (Y := []) (.of_ext hb) (by simp)
/-- An event is put behind. -/
theorem OutAt.push {w w' : World} {B : Nat} {X : List Nat} {v v' : Value} {es : List Ev} {e : Ev} {vb vm : Value} {n : Nat} (hn : n = es.length + 1) (vs : List (Value × Value)) (h1 : vs.length = es.length) (h4 : ∀ k, v.ownBlock = some k → k ∉ X)
    (h5 : ∀ (j : Nat) (e : Ev) (u : Value × Value), es[j]? = some e → vs[j]? = some u → EvOk w (v.ownBlock.toList ++ X) e u.1 u.2) (he : EvOk w (v.ownBlock.toList ++ X) e vb vm) (hX : ∀ x ∈ X, x < w.heap.size)
    (ho : w'.ownsRow B 43 4 v' n (evCells es vs ++ evV e vb vm)) (hg : Grew B w w' v) (hat : v'.ownBlock = v.ownBlock ∨ v'.ownBlock = some w.heap.size) : OutAt w' B X v' (es ++ [e]) := by
  have hx : ∀ x ∈ v'.ownBlock.toList ++ X, x ∈ v.ownBlock.toList ++ X ∨ w.heap.size ≤ x := fun x hx => by
    rw [List.mem_append] at hx
    rcases hx with hx | hx
    · rcases hat with e | e
      · rw [e] at hx; exact .inl (List.mem_append_left _ hx)
      · rw [e] at hx; simp at hx; exact .inr (by omega)
    · exact .inl (List.mem_append_right _ hx)
  have hy : ∀ y ∈ v.ownBlock.toList, y ∈ v.ownBlock.toList ++ X ∨ w.heap.size ≤ y := fun y hy => .inl (List.mem_append_left _ hy)
  refine ⟨vs ++ [(vb, vm)], by simp [h1], ?_, fun k hk => ?_, fun j e' u he' hu => ?_⟩
  · rw [evCells_snoc es vs h1, List.length_append, List.length_singleton, ← hn]
    exact ho
  · rcases hat with e | e
    · exact h4 k (by rw [← e]; exact hk)
    · intro hm; rw [e] at hk; cases hk; have := hX _ hm; omega
  · by_cases hj : j < es.length
    · rw [List.getElem?_append_left hj] at he'
      rw [List.getElem?_append_left (by omega)] at hu
      exact (h5 j e' u he' hu).step hg.chg hy hx
    · have hjl : j = es.length := by
        have := (List.getElem?_eq_some_iff.1 he').1
        simp at this; omega
      subst hjl
      simp at he'
      rw [← h1] at hu
      simp at hu
      subst he' hu
      exact he.step hg.chg hy hx
end Go.Proofs.Ytnbdmlpnoiljdaa
