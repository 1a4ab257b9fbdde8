/- layer 39's document: its events in memory (written out of Cut1 by a program). -/
import Derived.Test.YtnbdmlpnoiljdaaCut14
namespace Go.Proofs.Ytnbdmlpnoiljdaa
open Go Go.RowKit

/-- An event of the document: its bytes are a text. -/
structure RvOk (w : World) (X : List Nat) (e : Ev) (vb vm : Value) : Prop where
  b : vb = strV e.b
  m : RdG w X vm (intsV e.m)
theorem RvOk.step {w w' : World} {X Y X' : List Nat} {e : Ev} {vb vm : Value} (h : RvOk w X e vb vm) (hc : Chg Y w w') (hy : ∀ y ∈ Y, y ∈ X ∨ w.heap.size ≤ y) (hx : ∀ x ∈ X', x ∈ X ∨ w.heap.size ≤ x) : RvOk w' X' e vb vm := ⟨h.b, h.m.step hc hy hx⟩
theorem RvOk.keep {w w' : World} {X : List Nat} {e : Ev} {vb vm : Value} (h : RvOk w X e vb vm) (hb : Ext w w') : RvOk w' X e vb vm := ⟨h.b, h.m.keep hb⟩
theorem RvOk.open {w : World} {X : List Nat} {e : Ev} {vb vm : Value} (h : RvOk w X e vb vm) : ∃ B d, vb = strV e.b ∧ vm = .slice B e.m.length d ∧ e.m.length ≤ d ∧ d ≤ maxLen ∧ Rd w 1 B e.m.length (intsV e.m) := by
  obtain ⟨h1, ⟨B, m, d, rfl, k1, k2, k3, _⟩⟩ := h
  have hm := k3.len_ints
  subst hm
  exact ⟨B, d, h1, rfl, k1, k2, k3⟩
theorem Try.elemRv : Elem Try.prog 26 34 (.agg #[.int .i64 0, .int .i64 0, .string ⟨#[]⟩, .slice none 0 0]) 4 56 := ⟨Try.underlying26, by kernel_rfl, rfl, by omega⟩

/-- A slice of events that reads. -/
def RvsRd (w : World) (X : List Nat) (A : Option Addr) (n : Nat) (es : List Ev) : Prop :=
  ∃ vs : List (Value × Value), vs.length = es.length ∧ es.length = n ∧ Rd w 4 A n (evCells es vs) ∧ ∀ (j : Nat) (e : Ev) (v : Value × Value), es[j]? = some e → vs[j]? = some v → RvOk w X e v.1 v.2
theorem RvsRd.keep {w w' : World} {X : List Nat} {A : Option Addr} {n : Nat} {es : List Ev} (h : RvsRd w X A n es) (hb : Ext w w') : RvsRd w' X A n es := by
  obtain ⟨vs, h1, h2, h3, h4⟩ := h
  exact ⟨vs, h1, h2, h3.keep hb, fun j e v he hv => (h4 j e v he hv).keep hb⟩
/-- An event of it: its four cells, in this world and those that come of it. -/
theorem RvsRd.get {w : World} {X : List Nat} {A : Option Addr} {n : Nat} {es : List Ev} (h : RvsRd w X A n es) {k : Nat} {e : Ev} (hk : es[k]? = some e) :
    ∃ b o vb vm, A = some ⟨b, o, none⟩ ∧ b < w.heap.size ∧ w.cell? ⟨b, o + k * 4, none⟩ = some (.int .i64 e.kind) ∧ w.cell? ⟨b, o + (k * 4 + 1), none⟩ = some (.int .i64 e.n) ∧ w.cell? ⟨b, o + (k * 4 + 2), none⟩ = some vb ∧ w.cell? ⟨b, o + (k * 4 + 3), none⟩ = some vm ∧ RvOk w X e vb vm := by
  obtain ⟨vs, h1, h2, h3, h4⟩ := h
  have hkl : k < es.length := (List.getElem?_eq_some_iff.1 hk).1
  have hl := evCells_len es vs h1
  obtain ⟨b, o, rfl, hb, hc⟩ := h3.2 (by omega)
  obtain ⟨v, hv⟩ : ∃ v, vs[k]? = some v := ⟨_, List.getElem?_eq_getElem (by omega)⟩
  have hg := evCells_get es vs k e v hk hv
  refine ⟨b, o, v.1, v.2, rfl, hb, hc _ _ (hg 0 (by omega)), hc _ _ (hg 1 (by omega)), hc _ _ (hg 2 (by omega)), hc _ _ (hg 3 (by omega)), h4 k e v hk hv⟩

/-- A row of events of one's own, which lie apart from it and from X. -/
def RutAt (w : World) (B : Nat) (X : List Nat) (v : Value) (es : List Ev) : Prop :=
  ∃ vs : List (Value × Value), vs.length = es.length ∧ w.ownsRow B 34 4 v es.length (evCells es vs) ∧ (∀ k, v.ownBlock = some k → k ∉ X) ∧ ∀ (j : Nat) (e : Ev) (u : Value × Value), es[j]? = some e → vs[j]? = some u → RvOk w (v.ownBlock.toList ++ X) e u.1 u.2
theorem RutAt.nil (w : World) (B : Nat) (X : List Nat) : RutAt w B X (.slice none 0 0) [] := ⟨[], rfl, World.ownsRow_nil _ _ _ _, by simp [Value.ownBlock], fun j e u h => by simp at h⟩
theorem RutAt.len {w : World} {B : Nat} {X : List Nat} {v : Value} {es : List Ev} (h : RutAt w B X v es) : ∃ A c, v = .slice A es.length c ∧ es.length ≤ c ∧ c ≤ maxLen := by
  obtain ⟨vs, h1, h2, h3, h4⟩ := h
  obtain ⟨A, c, h5, h6, h7, _⟩ := own_rd h2
  exact ⟨A, c, h5, h6, h7⟩
theorem RutAt.own_lt {w : World} {B : Nat} {X : List Nat} {v : Value} {es : List Ev} (h : RutAt w B X v es) : ∀ k, v.ownBlock = some k → B ≤ k ∧ k < w.heap.size := by
  obtain ⟨vs, _, h2, _⟩ := h
  exact h2.lt
theorem RutAt.rd {w : World} {B : Nat} {X : List Nat} {v : Value} {es : List Ev} (h : RutAt w B X v es) : ∃ A c, v = .slice A es.length c ∧ es.length ≤ c ∧ c ≤ maxLen ∧ RvsRd w X A es.length es := by
  obtain ⟨vs, h1, h2, h3, h4⟩ := h
  obtain ⟨A, c, h5, h6, h7, h8⟩ := own_rd h2
  exact ⟨A, c, h5, h6, h7, vs, h1, rfl, h8, fun j e u he hu => ⟨(h4 j e u he hu).b, ((h4 j e u he hu).m).sub (fun x hx => .inl (by simp [hx]))⟩⟩
theorem RutAt.chg {w w' : World} {B : Nat} {X Y : List Nat} {v : Value} {es : List Ev} (h : RutAt w B X v es) (hc : Chg Y w w') (hy : ∀ y ∈ Y, y ∈ X) : RutAt w' B X v es := by
  obtain ⟨vs, h1, h2, h3, h4⟩ := h
  exact ⟨vs, h1, own_chg h2 hc (fun k hk hm => h3 k hk (hy k hm)), h3, fun j e u he hu => (h4 j e u he hu).step hc (fun y h => .inl (by simp [hy y h])) (fun x h => .inl h)⟩
theorem RutAt.keep {w w' : World} {B : Nat} {X : List Nat} {v : Value} {es : List Ev} (h : RutAt w B X v es) (hb : Ext w w') : RutAt w' B X v es := h.chg (Y := []) (.of_ext hb) (by simp)
/-- An event is put behind. -/
theorem RutAt.push {w w' : World} {B : Nat} {X : List Nat} {v v' : Value} {es : List Ev} {e : Ev} {vb vm : Value} {n : Nat} (hn : n = es.length + 1) (vs : List (Value × Value)) (h1 : vs.length = es.length) (h4 : ∀ k, v.ownBlock = some k → k ∉ X)
    (h5 : ∀ (j : Nat) (e : Ev) (u : Value × Value), es[j]? = some e → vs[j]? = some u → RvOk w (v.ownBlock.toList ++ X) e u.1 u.2) (he : RvOk w (v.ownBlock.toList ++ X) e vb vm) (hX : ∀ x ∈ X, x < w.heap.size)
    (ho : w'.ownsRow B 34 4 v' n (evCells es vs ++ evV e vb vm)) (hg : Grew B w w' v) (hat : v'.ownBlock = v.ownBlock ∨ v'.ownBlock = some w.heap.size) : RutAt w' B X v' (es ++ [e]) := by
  have hx : ∀ x ∈ v'.ownBlock.toList ++ X, x ∈ v.ownBlock.toList ++ X ∨ w.heap.size ≤ x := fun x hx => by
    rw [List.mem_append] at hx
    rcases hx with hx | hx
    · rcases hat with e | e
      · rw [e] at hx; exact .inl (List.mem_append_left _ hx)
      · rw [e] at hx; simp at hx; exact .inr (by omega)
    · exact .inl (List.mem_append_right _ hx)
  have hy : ∀ y ∈ v.ownBlock.toList, y ∈ v.ownBlock.toList ++ X ∨ w.heap.size ≤ y := fun y hy => .inl (List.mem_append_left _ hy)
  refine ⟨vs ++ [(vb, vm)], by simp [h1], ?_, fun k hk => ?_, fun j e' u he' hu => ?_⟩
  · rw [evCells_snoc es vs h1, List.length_append, List.length_singleton, ← hn]
    exact ho
  · rcases hat with e | e
    · exact h4 k (by rw [← e]; exact hk)
    · intro hm; rw [e] at hk; cases hk; have := hX _ hm; omega
  · by_cases hj : j < es.length
    · rw [List.getElem?_append_left hj] at he'
      rw [List.getElem?_append_left (by omega)] at hu
      exact (h5 j e' u he' hu).step hg.chg hy hx
    · have hjl : j = es.length := by
        have := (List.getElem?_eq_some_iff.1 he').1
        simp at this; omega
      subst hjl
      simp at he'
      rw [← h1] at hu
      simp at hu
      subst he' hu
      exact he.step hg.chg hy hx

theorem RvsRd.at4 {w : World} {X : List Nat} {A : Option Addr} {n : Nat} {es : List Ev} (h : RvsRd w X A n es) {k : Nat} {e : Ev} (hk : es[k]? = some e) :
    ∃ b o B1 d1, A = some ⟨b, o, none⟩ ∧ b < w.heap.size ∧ w.cell? ⟨b, o + k * 4, none⟩ = some (.int .i64 e.kind) ∧ w.cell? ⟨b, o + k * 4 + 1, none⟩ = some (.int .i64 e.n) ∧ w.cell? ⟨b, o + k * 4 + 2, none⟩ = some (strV e.b) ∧ w.cell? ⟨b, o + k * 4 + 3, none⟩ = some (.slice B1 e.m.length d1) ∧
      RvOk w X e (strV e.b) (.slice B1 e.m.length d1) ∧ e.m.length ≤ d1 ∧ d1 ≤ maxLen ∧ Rd w 1 B1 e.m.length (intsV e.m) := by
  obtain ⟨b, o, vb, vm, h1, h2, p0, p1, p2, p3, he⟩ := h.get hk
  obtain ⟨B1, d1, rfl, rfl, q3, q4, q6⟩ := he.open
  exact ⟨b, o, B1, d1, h1, h2, p0, p1, p2, p3, he, q3, q4, q6⟩
theorem RutAt.weak {w : World} {B B' : Nat} {X X' : List Nat} {v : Value} {es : List Ev} (h : RutAt w B X v es) (hB : B' ≤ B) (hx : ∀ x ∈ X', x ∈ X) : RutAt w B' X' v es := by
  obtain ⟨vs, h1, h2, h3, h4⟩ := h
  refine ⟨vs, h1, own_mono h2 hB, fun k hk hm => h3 k hk (hx k hm), fun j e u he hu => (h4 j e u he hu).step (.refl [] w) (by simp) fun x hm => .inl ?_⟩
  rcases List.mem_append.1 hm with h | h
  · exact List.mem_append_left _ h
  · exact List.mem_append_right _ (hx x h)
theorem RvsRd.sub {w : World} {X X' : List Nat} {A : Option Addr} {n : Nat} {es : List Ev} (h : RvsRd w X A n es) (hx : ∀ x ∈ X', x ∈ X ∨ w.heap.size ≤ x) : RvsRd w X' A n es := by
  obtain ⟨vs, h1, h2, h3, h4⟩ := h
  exact ⟨vs, h1, h2, h3, fun j e v he hv => (h4 j e v he hv).step (.refl [] w) (by simp) hx⟩
end Go.Proofs.Ytnbdmlpnoiljdaa
