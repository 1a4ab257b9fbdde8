/- Timers: Set whatever is asked; Tick of the first one. -/
import Derived.Test.YtnbdmlpnoiljdaaDoorTm7
import Derived.Test.YtnbdmlpnoiljdaaDoorTm8
namespace Go.Proofs.YtnbdmlpnoiljdaaDoor
open Go Go.RowKit

theorem sort_uni {L M : List (Int × Int)} (hL : sortP L) (hM : sortP M) (hp : L.Perm M) : L = M := by
  induction L generalizing M with
  | nil => exact (List.nil_perm.1 hp).symm
  | cons x r ih =>
    cases M with
    | nil => exact absurd (hp.length_eq) (by simp)
    | cons y s =>
      have hxy : x = y := by
        by_cases h : x = y
        · exact h
        have hx : x ∈ s := by
          have := hp.subset (List.mem_cons_self (a := x) (l := r))
          simpa [h] using this
        have hy : y ∈ r := by
          have := hp.symm.subset (List.mem_cons_self (a := y) (l := s))
          simpa [Ne.symm h] using this
        have := ltP_trans (hL.1 y hy) (hM.1 x hx)
        unfold ltP at this
        omega
      subst hxy
      rw [ih hL.2 hM.2 (List.Perm.cons_inv hp)]

theorem TmTurned.of_ext {w w' : World} {B tb : Nat} {v : Value} {now : Int} {L : List (Int × Int)} (h : TmAt w B tb v now L) (hx : Ext w w') : TmTurned w w' B tb v now L :=
  ⟨v, h.keep hx, .of_ext hx, fun _ hk => .inl hk⟩
theorem TmAt.below {w0 w1 w2 : World} {B tb : Nat} {v : Value} {now : Int} {L : List (Int × Int)} (h : TmAt w1 B tb v now L) (hc : Chg (tb :: v.ownBlock.toList) w1 w2) (hb : Below B w0 w1) : Below B w0 w2 := by
  have := h.blk.lt
  have := h.low
  refine hc.below hb (by omega) fun x hx => ?_
  rcases List.mem_cons.1 hx with rfl | hx
  · exact h.low
  · exact (h.own.lt (by simpa using hx)).1

/-- What a Set answers. -/
def SetAns (E : Nat → Addr) (now key at' : Int) (L L' : List (Int × Int)) (u : Value) : Prop :=
  ((at' < now ∨ 1099511627776 < at') ∧ u = errV E 0 ∧ L' = L) ∨
  (now ≤ at' ∧ at' ≤ 1099511627776 ∧ (∀ y ∈ L, y.2 ≠ key) ∧ 16 ≤ L.length ∧ u = errV E 1 ∧ L' = L) ∨
  (now ≤ at' ∧ at' ≤ 1099511627776 ∧ ((∃ x ∈ L, x.2 = key) ∨ L.length < 16) ∧ u = .nilIface ∧ L'.Perm ((at', key) :: dropK key L))

theorem tmSet {w : World} {B tb : Nat} {v : Value} {now : Int} {L : List (Int × Int)} {E : Nat → Addr} (h : TmAt w B tb v now L) (key at' : Int) (hE : ErrC [0, 1] w E) :
    Calls Tryd.prog 38 #[.pointer (some ⟨tb, 0, none⟩), .int .i64 key, .int .i64 at'] w fun e w' => ∃ u L', e = .returned u ∧ SetAns E now key at' L L' u ∧ TmTurned w w' B tb v now L' := by
  by_cases h1 : at' < now ∨ 1099511627776 < at'
  · refine (tmSetRange h key at' hE h1).mono ?_
    rintro e w' ⟨rfl, rfl⟩
    exact ⟨_, L, rfl, .inl ⟨h1, rfl, rfl⟩, .of_ext h (Ext.refl _)⟩
  have h2 : now ≤ at' := by omega
  have h3 : at' ≤ 1099511627776 := by omega
  rcases key_or L key with ⟨k, x, hk, hx⟩ | hno
  · refine (tmSetOk h key at' h2 h3 (.inl ⟨x, List.mem_of_getElem? hk, hx⟩)).mono ?_
    rintro e w' ⟨rfl, L', ht, hp⟩
    exact ⟨_, L', rfl, .inr (.inr ⟨h2, h3, .inl ⟨x, List.mem_of_getElem? hk, hx⟩, rfl, hp⟩), ht⟩
  · by_cases h16 : 16 ≤ L.length
    · refine (tmSetFull h key at' hE h2 h3 hno h16).mono ?_
      rintro e w' ⟨rfl, hx⟩
      exact ⟨_, L, rfl, .inr (.inl ⟨h2, h3, hno, h16, rfl, rfl⟩), .of_ext h hx⟩
    · refine (tmSetOk h key at' h2 h3 (.inr (by omega))).mono ?_
      rintro e w' ⟨rfl, L', ht, hp⟩
      exact ⟨_, L', rfl, .inr (.inr ⟨h2, h3, .inr (by omega), rfl, hp⟩), ht⟩

/-- All are within the clock's bounds. -/
def InT (now : Int) (L : List (Int × Int)) : Prop := ∀ y ∈ L, now ≤ y.1 ∧ y.1 ≤ 1099511627776
theorem SetAns.inT {E : Nat → Addr} {now key at' : Int} {L L' : List (Int × Int)} {u : Value} (h : SetAns E now key at' L L' u) (hL : InT now L) : InT now L' := by
  rcases h with ⟨_, _, rfl⟩ | ⟨_, _, _, _, _, rfl⟩ | ⟨h1, h2, _, _, hp⟩
  · exact hL
  · exact hL
  · intro y hy
    rcases List.mem_cons.1 (hp.subset hy) with rfl | hy
    · exact ⟨h1, h2⟩
    · exact hL y (List.mem_filter.1 hy).1

theorem rd_first {w : World} {b o n : Nat} {x : Value} {xs : List Value} (h : Rd w 1 (some ⟨b, o, none⟩) n (x :: xs)) : w.cell? ⟨b, o, none⟩ = some x := by
  obtain ⟨b', o', e, _, hc⟩ := h.2 (by simp)
  cases e
  exact hc 0 x rfl

/-- A Tick ahead of the first one. -/
theorem tmTickNone {w : World} {B tb : Nat} {v : Value} {now : Int} {x : Int × Int} {r : List (Int × Int)} (h : TmAt w B tb v now (x :: r)) (n T : Int) (h0 : 0 ≤ now) (h9 : now ≤ 1099511627776) (hn0 : 0 ≤ n) (hn9 : n ≤ 1099511627776 - now) (hT : now + n = T) (hx : T < x.1) :
    Calls Tryd.prog 41 #[.pointer (some ⟨tb, 0, none⟩), .int .i64 n] w fun e w' => ∃ A c, e = .returned (.tuple #[.slice A 0 c, .nilIface]) ∧ TmTurned w w' B tb v T (x :: r) := by
  refine (tmTickOk h n T h0 h9 hn0 hn9 hT).mono ?_
  rintro e w' ⟨A, c, D, R, rfl, hL, hD, _, _, ht⟩
  cases D with
  | nil =>
    simp at hL
    subst hL
    exact ⟨A, c, rfl, ht⟩
  | cons d D =>
    simp at hL
    have := hD d (List.mem_cons_self)
    rw [← hL.1] at this
    omega
/-- A Tick that reaches it. -/
theorem tmTickSome {w : World} {B tb : Nat} {v : Value} {now : Int} {x : Int × Int} {r : List (Int × Int)} (h : TmAt w B tb v now (x :: r)) (n T : Int) (h0 : 0 ≤ now) (h9 : now ≤ 1099511627776) (hn0 : 0 ≤ n) (hn9 : n ≤ 1099511627776 - now) (hT : now + n = T) (hx : x.1 ≤ T) :
    Calls Tryd.prog 41 #[.pointer (some ⟨tb, 0, none⟩), .int .i64 n] w fun e w' => ∃ b c D R, e = .returned (.tuple #[.slice (some ⟨b, 0, none⟩) (D.length + 1) c, .nilIface]) ∧ D.length + 1 ≤ c ∧ c ≤ maxLen ∧ D.length ≤ 16 ∧ r = D ++ R ∧ (∀ y ∈ D, y.1 ≤ T) ∧ (∀ y r', R = y :: r' → T < y.1) ∧
      w'.cell? ⟨b, 0, none⟩ = some (.int .i64 x.2) ∧ Rd w' 1 (some ⟨b, 0, none⟩) (D.length + 1) (intsV (x.2 :: D.map (·.2))) ∧ w.heap.size ≤ b ∧ b < w'.heap.size ∧ TmTurned w w' B tb v T R := by
  have hlen := h.len
  refine (tmTickOk h n T h0 h9 hn0 hn9 hT).mono ?_
  rintro e w' ⟨A, c, D, R, rfl, hL, hD, hR, ho, ht⟩
  cases D with
  | nil =>
    simp at hL
    have := hR x r hL.symm
    omega
  | cons d D =>
    simp at hL
    obtain ⟨rfl, rfl⟩ := hL
    have ho' : w'.ownsRow w.heap.size 3 1 (.slice A (D.length + 1) c) (D.length + 1) (intsV (x.2 :: D.map (·.2))) := by simpa using ho
    obtain ⟨A', c', hv, hnc, hcm, hrd⟩ := own_rd ho'
    cases hv
    obtain ⟨b, rfl⟩ : ∃ b, A = some ⟨b, 0, none⟩ := by
      rcases ho'.2 with ⟨hs, _⟩ | ⟨g, cap, cur, hs, _⟩
      · cases hs
      · cases hs
        exact ⟨g, rfl⟩
    have hlt := row_lt ho' (k := b) rfl
    have hl9 : D.length ≤ 16 := by simp at hlen; omega
    exact ⟨b, c, D, R, rfl, hnc, hcm, hl9, rfl, fun y hy => hD y (List.mem_cons_of_mem _ hy), hR, rd_first hrd, hrd, hlt.1, hlt.2, ht⟩
end Go.Proofs.YtnbdmlpnoiljdaaDoor
