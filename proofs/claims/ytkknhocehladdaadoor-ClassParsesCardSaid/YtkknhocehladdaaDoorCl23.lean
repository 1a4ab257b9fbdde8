/- A class, as the code reads it. -/
import Derived.Test.YtkknhocehladdaaDoorCl22
namespace Go.Proofs.YtkknhocehladdaaDoor
open Go Go.RowKit
attribute [local irreducible] wd

theorem clItem (E : Nat → Addr) (l : List UInt8) (k r : Nat) (hlen : l.length ≤ 10000) (hk : k ≤ l.length) (w : World) (hE : ErrC [2, 4] w E) (hT : Tab w) (hR : RdAt w r l k) (h0 : r ≠ 0) (h1 : r ≠ 1) (ht : r ≠ 16) :
    Calls Tryd.prog 36 #[.pointer (some ⟨r, 0, none⟩)] w fun e w' =>
      e = .returned (.tuple #[sp (itemS (l.drop k)).1, ev E (itemS (l.drop k)).2.2]) ∧ ((itemS (l.drop k)).2.2 = 0 → RdAt w' r l (k + (itemS (l.drop k)).2.1)) ∧ Chg [r] w w' := by
  by_cases h : ∃ m n, signS (l.drop k) = .byte m n ∧ l[k + n]? = some 45
  · obtain ⟨m, n, h2, h3⟩ := h
    exact clItemB E l k r m n hlen hk w hE hT hR h0 h1 ht h2 h3
  · exact clItemA E l k r hlen hk w hE hR (fun m n h2 h3 => h ⟨m, n, h2, h3⟩)

theorem goS_at (l : List UInt8) (b f k : Nat) (x : Nat → Bool) : goS l b (f + 1) k x =
    if k ≠ b ∧ l[k]? = some 93 then (x, k + 1, 0)
    else if (itemS (l.drop k)).2.2 ≠ 0 then (fun _ => false, 0, (itemS (l.drop k)).2.2)
    else goS l b f (k + (itemS (l.drop k)).2.1) (fun j => x j || (itemS (l.drop k)).1 j) := rfl
theorem goS_ok (l : List UInt8) (b : Nat) : ∀ f k x, (goS l b f k x).2.2 = 0 ∨ (goS l b f k x).2.2 = 3 ∨ (goS l b f k x).2.2 = 5 := by
  intro f
  induction f with
  | zero => intro k x; exact .inr (.inl rfl)
  | succ f ih =>
    intro k x
    rw [goS_at]
    split
    · exact .inl rfl
    · split
      · exact .inr ((item_fits (l.drop k)).2.resolve_left (by assumption))
      · exact ih _ _

/-- Where a reader stands. -/
def posOf (w : World) (r : Nat) : Nat := (intOf ((w.cell? ⟨r, 1, none⟩).getD undef)).toNat
theorem RdAt.pos {w : World} {r : Nat} {l : List UInt8} {k : Nat} (h : RdAt w r l k) : posOf w r = k := by
  unfold posOf
  rw [h.c1]
  simp [intOf]
def parseV (E : Nat → Addr) (x : (Nat → Bool) × Nat × Nat) : Value := .tuple #[sp x.1, .int .i64 (x.2.1 : Nat), ev E x.2.2]
theorem parse_some (t : List UInt8) (b : Bool) (hb : decide ((91 :: t : List UInt8)[1]? = some 94) = b) (r : (Nat → Bool) × Nat × Nat) (hr : goS (91 :: t) (if b then 2 else 1) ((91 :: t : List UInt8).length + 1) (if b then 2 else 1) (fun _ => false) = r) :
    parseS (91 :: t) = if r.2.2 = 0 then (notP b r.1, r.2) else r := by
  subst hb
  subst hr
  rfl

set_option maxHeartbeats 8000000 in
set_option maxRecDepth 20000 in
theorem clParse0 (E : Nat → Addr) (l : List UInt8) (hno : ∀ t, l ≠ 91 :: t) (w : World) (hE : ErrC [2, 4] w E) :
    Calls Tryd.prog 23 #[.string ⟨l.toArray⟩] w fun e w' => e = .returned (parseV E (parseS l)) ∧ Ext w w' := by
  have hz0 : 0 < w.heap.size := block_lt_of_cell (hE.cell (i := 2) (by simp) rfl)
  have hz1 : 1 < w.heap.size := block_lt_of_cell (hE.cell (i := 4) (by simp) rfl)
  have hS := SB.zero (w := w) rfl
  have hx0 := Ext.new1 w (.cells #[.int .u64 0, .int .u64 0, .int .u64 0, .int .u64 0] 24)
  have hE1 := hE.keep hx0
  have c0 : (w.alloc (.cells #[.int .u64 0, .int .u64 0, .int .u64 0, .int .u64 0] 24)).cell? ⟨0, 0, none⟩ = some (errV E 2) := hE1.cell (i := 2) (by simp) rfl
  have c1 : (w.alloc (.cells #[.int .u64 0, .int .u64 0, .int .u64 0, .int .u64 0] 24)).cell? ⟨1, 0, none⟩ = some (errV E 4) := hE1.cell (i := 4) (by simp) rfl
  have n0 : ¬ 0 = w.heap.size := by omega
  have n1 : ¬ 1 = w.heap.size := by omega
  have n2 : ¬ w.heap.size = 0 := by omega
  have n3 : ¬ w.heap.size = 1 := by omega
  have HS := Lib.hid hS
  have HNO := Lib.hid hno
  clear hE hE1 hS hz0 hz1 hno
  match l with
  | [] =>
    have HR := Lib.hid (show parseS [] = (fun _ => false, 0, 3) from rfl)
    go_enter Tryd.func23, Tryd.ntmps23
    go_wp2
    go_region
    all_goals go_wp2
    all_goals exact bodyPost_ret (v := .tuple #[sp (fun _ => false), .int .i64 0, errV E 2]) (results_sp3 rfl rfl HS.out.drew rfl rfl) rfl ⟨by rw [HR.out]; rfl, by (first | exact Ext.refl _ | (unfold Ext; repeat (first | exact Below.refl _ _ | assumption | refine Below.alloc ?_ (by first | (simp; done) | (simp; omega) | omega) _ | refine Below.setCell ?_ (by first | (simp; done) | (simp; omega) | omega) _ | refine Below.drew ?_)))⟩
  | a :: t =>
    have ha : a ≠ 91 := fun e => HNO.out t (by rw [e])
    have ha1 : a.toNat ≠ 91 := fun e => ha (UInt8.toNat_inj.1 e)
    have HR := Lib.hid (show parseS (a :: t) = (fun _ => false, 0, 5) by unfold parseS; simp [ha1])
    have ha3 : ((a.toNat : Int) != 91) = true := by simp; omega
    clear ha ha1
    go_enter Tryd.func23, Tryd.ntmps23
    go_wp2
    go_region
    all_goals go_wp2
    all_goals exact bodyPost_ret (v := .tuple #[sp (fun _ => false), .int .i64 0, errV E 4]) (results_sp3 rfl rfl HS.out.drew rfl rfl) rfl ⟨by rw [HR.out]; rfl, by (first | exact Ext.refl _ | (unfold Ext; repeat (first | exact Below.refl _ _ | assumption | refine Below.alloc ?_ (by first | (simp; done) | (simp; omega) | omega) _ | refine Below.setCell ?_ (by first | (simp; done) | (simp; omega) | omega) _ | refine Below.drew ?_)))⟩

theorem parseV_not (E : Nat → Addr) (x : Nat → Bool) (k : Nat) : parseV E (notP true x, k + 1, 0) = .tuple #[sp (fun j => !x j), .int .i64 ((k : Int) + 1), .nilIface] := by
  have h : notP true x = fun j => !x j := rfl
  unfold parseV
  rw [h]
  rfl
theorem parseV_id (E : Nat → Addr) (x : Nat → Bool) (k : Nat) : parseV E (notP false x, k + 1, 0) = .tuple #[sp x, .int .i64 ((k : Int) + 1), .nilIface] := by
  have h : notP false x = x := rfl
  unfold parseV
  rw [h]
  rfl
end Go.Proofs.YtkknhocehladdaaDoor
