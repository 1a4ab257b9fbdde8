/- layer 39: events in memory; size, right, part. -/
import Derived.Test.YtnbdmlpnoiljdaaDoorEv
import Derived.Test.YtnbdmlpnoiljdaaDoorOff
import Derived.Test.YtnbdmlpnoiljdaaDoorInts
import Derived.Test.YtnbdmlpnoiljdaaDoorOb
import Derived.Test.YtnbdmlpnoiljdaaDoorCatB
import Derived.Handy
namespace Go.Proofs.YtnbdmlpnoiljdaaDoor
open Go Go.RowKit

/-- A slice of one-cell elements that reads as these cells and lies in none of the blocks X. -/
def RdG (w : World) (X : List Nat) (v : Value) (cs : List Value) : Prop :=
  ∃ A n c, v = .slice A n c ∧ n ≤ c ∧ c ≤ maxLen ∧ Rd w 1 A n cs ∧ (0 < n → ∀ b o s, A = some ⟨b, o, s⟩ → b ∉ X)
theorem RdG.nil {w : World} {X : List Nat} : RdG w X (.slice none 0 0) [] := ⟨none, 0, 0, rfl, Nat.le_refl _, by unfold maxLen; omega, Rd.nil, fun h => by omega⟩
theorem RdG.step {w w' : World} {X Y X' : List Nat} {v : Value} {cs : List Value} (h : RdG w X v cs) (hc : Chg Y w w') (hy : ∀ y ∈ Y, y ∈ X ∨ w.heap.size ≤ y) (hx : ∀ x ∈ X', x ∈ X ∨ w.heap.size ≤ x) : RdG w' X' v cs := by
  obtain ⟨A, n, c, rfl, h1, h2, h3, h4⟩ := h
  have hl : cs.length = n := by simpa using h3.1
  have hlt : 0 < n → ∀ b o s, A = some ⟨b, o, s⟩ → b < w.heap.size := fun hp b o s e => by
    obtain ⟨b', o', e', hlt, _⟩ := h3.2 (by omega)
    rw [e] at e'
    cases e'
    exact hlt
  refine ⟨A, n, c, rfl, h1, h2, h3.chg hc (fun hp b o s e hb => ?_), fun hp b o s e hb => ?_⟩
  · rcases hy b hb with hb | hb
    · exact h4 (by omega) b o s e hb
    · have := hlt (by omega) b o s e; omega
  · rcases hx b hb with hb | hb
    · exact h4 hp b o s e hb
    · have := hlt hp b o s e; omega
theorem RdG.keep {w w' : World} {X : List Nat} {v : Value} {cs : List Value} (h : RdG w X v cs) (hb : Ext w w') : RdG w' X v cs := h.step (Y := []) (.of_ext hb) (by simp) (fun _ hx => .inl hx)
theorem RdG.sub {w : World} {X X' : List Nat} {v : Value} {cs : List Value} (h : RdG w X v cs) (hx : ∀ x ∈ X', x ∈ X ∨ w.heap.size ≤ x) : RdG w X' v cs := h.step (.refl [] w) (by simp) hx
theorem own_rdg {w : World} {base : Nat} {e : TypeId} {v : Value} {n : Nat} {cs : List Value} {X : List Nat} (h : w.ownsRow base e 1 v n cs) (hx : ∀ k, v.ownBlock = some k → k ∉ X) : RdG w X v cs := by
  obtain ⟨A, c, rfl, h1, h2, h3⟩ := own_rd h
  refine ⟨A, _, c, rfl, h1, h2, h3, fun hp b o s e => hx b (by rw [e]; rfl)⟩

def evV (e : Ev) (vb vm : Value) : List Value := [.int .i64 e.kind, .int .i64 e.n, vb, vm]
structure EvOk (w : World) (X : List Nat) (e : Ev) (vb vm : Value) : Prop where
  b : RdG w X vb (bytesV e.b)
  m : RdG w X vm (intsV e.m)
theorem EvOk.step {w w' : World} {X Y X' : List Nat} {e : Ev} {vb vm : Value} (h : EvOk w X e vb vm) (hc : Chg Y w w') (hy : ∀ y ∈ Y, y ∈ X ∨ w.heap.size ≤ y) (hx : ∀ x ∈ X', x ∈ X ∨ w.heap.size ≤ x) : EvOk w' X' e vb vm := ⟨h.b.step hc hy hx, h.m.step hc hy hx⟩
theorem EvOk.keep {w w' : World} {X : List Nat} {e : Ev} {vb vm : Value} (h : EvOk w X e vb vm) (hb : Ext w w') : EvOk w' X e vb vm := ⟨h.b.keep hb, h.m.keep hb⟩
theorem EvOk.open {w : World} {X : List Nat} {e : Ev} {vb vm : Value} (h : EvOk w X e vb vm) : ∃ A c B d, vb = .slice A e.b.length c ∧ vm = .slice B e.m.length d ∧ e.b.length ≤ c ∧ c ≤ maxLen ∧ e.m.length ≤ d ∧ d ≤ maxLen ∧ Rd w 1 A e.b.length (bytesV e.b) ∧ Rd w 1 B e.m.length (intsV e.m) := by
  obtain ⟨⟨A, n, c, rfl, h1, h2, h3, _⟩, ⟨B, m, d, rfl, k1, k2, k3, _⟩⟩ := h
  have hn := h3.len_bytes
  have hm := k3.len_ints
  subst hn hm
  exact ⟨A, c, B, d, rfl, rfl, h1, h2, k1, k2, h3, k3⟩

def evCells : List Ev → List (Value × Value) → List Value
  | e :: es, v :: vs => evV e v.1 v.2 ++ evCells es vs
  | _, _ => []
theorem evCells_len : ∀ (es : List Ev) (vs : List (Value × Value)) (_ : vs.length = es.length), (evCells es vs).length = es.length * 4 := by
  intro es
  induction es with
  | nil => intro vs h; simp [evCells]
  | cons e es ih =>
    intro vs h
    cases vs with
    | nil => simp at h
    | cons v vs => simp [evCells, evV, ih vs (by simpa using h)]; omega
theorem evCells_snoc : ∀ (es : List Ev) (vs : List (Value × Value)) (_ : vs.length = es.length) (e : Ev) (v : Value × Value), evCells (es ++ [e]) (vs ++ [v]) = evCells es vs ++ evV e v.1 v.2 := by
  intro es
  induction es with
  | nil => intro vs h e v; cases vs with
    | nil => rfl
    | cons _ _ => simp at h
  | cons x es ih =>
    intro vs h e v
    cases vs with
    | nil => simp at h
    | cons y vs => simp [evCells, ih vs (by simpa using h)]
theorem evCells_get : ∀ (es : List Ev) (vs : List (Value × Value)) (j : Nat) (e : Ev) (v : Value × Value) (_ : es[j]? = some e) (_ : vs[j]? = some v) (i : Nat) (_ : i < 4), (evCells es vs)[j * 4 + i]? = (evV e v.1 v.2)[i]? := by
  intro es
  induction es with
  | nil => intro vs j e v h; simp at h
  | cons x es ih =>
    intro vs j e v h1 h2 i hi
    cases vs with
    | nil => simp at h2
    | cons y vs =>
      cases j with
      | zero =>
        simp at h1 h2
        subst h1 h2
        simp only [evCells, Nat.zero_mul, Nat.zero_add]
        rw [List.getElem?_append_left (by simp [evV]; omega)]
      | succ j =>
        simp only [evCells]
        rw [List.getElem?_append_right (by simp [evV]; omega)]
        simp only [evV, List.length_cons, List.length_nil]
        rw [show (j + 1) * 4 + i - (0 + 1 + 1 + 1 + 1) = j * 4 + i by omega]
        exact ih vs j e v (by simpa using h1) (by simpa using h2) i hi

/-- A slice of events that reads. -/
def EvsRd (w : World) (X : List Nat) (A : Option Addr) (n : Nat) (es : List Ev) : Prop :=
  ∃ vs : List (Value × Value), vs.length = es.length ∧ es.length = n ∧ Rd w 4 A n (evCells es vs) ∧ ∀ (j : Nat) (e : Ev) (v : Value × Value), es[j]? = some e → vs[j]? = some v → EvOk w X e v.1 v.2
theorem EvsRd.keep {w w' : World} {X : List Nat} {A : Option Addr} {n : Nat} {es : List Ev} (h : EvsRd w X A n es) (hb : Ext w w') : EvsRd w' X A n es := by
  obtain ⟨vs, h1, h2, h3, h4⟩ := h
  exact ⟨vs, h1, h2, h3.keep hb, fun j e v he hv => (h4 j e v he hv).keep hb⟩
/-- An event of it: its four cells, in this world and those that come of it. -/
theorem EvsRd.get {w : World} {X : List Nat} {A : Option Addr} {n : Nat} {es : List Ev} (h : EvsRd w X A n es) {k : Nat} {e : Ev} (hk : es[k]? = some e) :
    ∃ b o vb vm, A = some ⟨b, o, none⟩ ∧ b < w.heap.size ∧ w.cell? ⟨b, o + k * 4, none⟩ = some (.int .i64 e.kind) ∧ w.cell? ⟨b, o + (k * 4 + 1), none⟩ = some (.int .i64 e.n) ∧ w.cell? ⟨b, o + (k * 4 + 2), none⟩ = some vb ∧ w.cell? ⟨b, o + (k * 4 + 3), none⟩ = some vm ∧ EvOk w X e vb vm := by
  obtain ⟨vs, h1, h2, h3, h4⟩ := h
  have hkl : k < es.length := (List.getElem?_eq_some_iff.1 hk).1
  have hl := evCells_len es vs h1
  obtain ⟨b, o, rfl, hb, hc⟩ := h3.2 (by omega)
  obtain ⟨v, hv⟩ : ∃ v, vs[k]? = some v := ⟨_, List.getElem?_eq_getElem (by omega)⟩
  have hg := evCells_get es vs k e v hk hv
  refine ⟨b, o, v.1, v.2, rfl, hb, hc _ _ (hg 0 (by omega)), hc _ _ (hg 1 (by omega)), hc _ _ (hg 2 (by omega)), hc _ _ (hg 3 (by omega)), h4 k e v hk hv⟩

end Go.Proofs.YtnbdmlpnoiljdaaDoor
