/- layer 5: Feed. -/
import Derived.Test.YtbipkbpcjkgohaaIac2
import Derived.Test.YtbipkbpcjkgohaaHops
namespace Go.Proofs.Ytbipkbpcjkgohaa
open Go Go.RowKit

theorem iacVerbT (c : UInt8) (w : World) (h1 : 250 < c.toNat) (h2 : c ≠ 255) : Calls Try.prog 38 #[.int .i64 c.toNat] w fun e w' => e = .returned (.bool true) ∧ w = w' :=
  (iacVerb c w).mono fun _ _ ⟨a, b⟩ => ⟨by rw [a]; have : c.toNat ≠ 255 := fun e => h2 (UInt8.toNat_inj.1 e); have := c.toNat_lt; simp; omega, b⟩
theorem iacVerbF (c : UInt8) (w : World) (h1 : ¬ 250 < c.toNat) : Calls Try.prog 38 #[.int .i64 c.toNat] w fun e w' => e = .returned (.bool false) ∧ w = w' :=
  (iacVerb c w).mono fun _ _ ⟨a, b⟩ => ⟨by rw [a]; simp; omega, b⟩

/-- A token as a value; its body is tb. -/
def tokV (t : Tok) (tb : Value) : Array Value := #[.int .i64 t.kind, .int .i64 t.code, .int .i64 t.opt, tb, .bool t.cut]
/-- What Feed leaves. -/
structure Fed (base : Nat) (w w' : World) (p : Nat) (m : Mach) (bv : Value) (c : UInt8) (tb bv' : Value) : Prop where
  mach : MachAt base w' p (feed m c).1 bv'
  body : ∀ X : List Nat, (∀ k, bv.ownBlock = some k → k ∉ X) → RdX w' (p :: bv'.ownBlock.toList ++ X) tb ((feed m c).2.getD noTok).body
  chg : Chg (p :: bv.ownBlock.toList) w w'
  own : bv'.ownBlock = none ∨ bv'.ownBlock = bv.ownBlock ∨ ∃ k, bv'.ownBlock = some k ∧ w.heap.size ≤ k

theorem Chg.wide {X Y : List Nat} {w w' : World} (h : Chg X w w') : Chg (X ++ Y) w w' := h.mono (by simp; intro x hx; exact .inl hx)

section
variable {base : Nat} {w : World} {p : Nat} {m : Mach} {bv : Value}
/-- Only the state is turned. -/
theorem fedA (h : MachAt base w p m bv) (c : UInt8) (s : Nat) (sv : Int) (hsv : sv = s) (h1 : feed m c = (⟨s, m.tok⟩, none)) (X Y : Obj) :
    Fed base w (((w.setCell ⟨p, 0, none⟩ (.int .i64 sv)).alloc X).alloc Y) p m bv c (.slice none 0 0) bv := by
  subst hsv
  have hc : Chg [p] w (((w.setCell ⟨p, 0, none⟩ (.int .i64 s)).alloc X).alloc Y) := (((Chg.refl _ _).setCell (by simp) _).alloc _).alloc _
  refine ⟨⟨?_, ?_, h.ne, h.base, feed_ok h.ok c⟩, fun _ _ => by rw [h1]; exact RdX.nil, hc.wide (Y := bv.ownBlock.toList), .inr (.inl rfl)⟩
  · rw [h1]; exact ((h.blk.set_ 0 (.int .i64 s)).alloc X).alloc Y
  · rw [h1]; exact own_chg h.own hc (fun k hk => by simp; intro e; subst e; exact h.ne hk)
/-- State and token are laid anew. -/
theorem fedB (h : MachAt base w p m bv) (c : UInt8) (s : Nat) (t : Tok) (r : Option Tok) (sv k co op : Int) (tb : Value) (hsv : sv = s) (hk : k = t.kind) (hco : co = t.code) (hop : op = t.opt) (h1 : feed m c = (⟨s, t⟩, r)) (hb : t.body = []) (hcut : t.cut = false)
    (htb : tb = .slice none 0 0 ∧ (r.getD noTok).body = [] ∨ tb = bv ∧ (r.getD noTok).body = m.tok.body) (X Y : Obj) :
    Fed base w ((((((((w.setCell ⟨p, 0, none⟩ (.int .i64 sv)).setCell ⟨p, 1, none⟩ (.int .i64 k)).setCell ⟨p, 2, none⟩ (.int .i64 co)).setCell ⟨p, 3, none⟩ (.int .i64 op)).setCell ⟨p, 4, none⟩ (.slice none 0 0)).setCell ⟨p, 5, none⟩ (.bool false)).alloc X).alloc Y) p m bv c tb (.slice none 0 0) := by
  subst hsv hk hco hop
  have hc : Chg [p] w ((((((((w.setCell ⟨p, 0, none⟩ (.int .i64 s)).setCell ⟨p, 1, none⟩ (.int .i64 t.kind)).setCell ⟨p, 2, none⟩ (.int .i64 t.code)).setCell ⟨p, 3, none⟩ (.int .i64 t.opt)).setCell ⟨p, 4, none⟩ (.slice none 0 0)).setCell ⟨p, 5, none⟩ (.bool false)).alloc X).alloc Y) :=
    ((((((((Chg.refl _ _).setCell (by simp) _).setCell (by simp) _).setCell (by simp) _).setCell (by simp) _).setCell (by simp) _).setCell (by simp) _).alloc _).alloc _
  have hbp : ∀ k, bv.ownBlock = some k → k ≠ p := fun k hk e => by subst e; exact h.ne hk
  refine ⟨⟨?_, ?_, by simp [Value.ownBlock], h.base, feed_ok h.ok c⟩, fun X' hX' => ?_, hc.wide (Y := bv.ownBlock.toList), .inl rfl⟩
  · rw [h1]
    have := ((((((((h.blk.set_ 0 (.int .i64 s)).set_ 1 (.int .i64 t.kind)).set_ 2 (.int .i64 t.code)).set_ 3 (.int .i64 t.opt)).set_ 4 (.slice none 0 0)).set_ 5 (.bool false)).alloc X).alloc Y)
    unfold machV at this ⊢
    rw [hcut]
    exact this
  · rw [h1, hb]; exact World.ownsRow_nil _ _ _ _
  · rw [h1]
    rcases htb with ⟨rfl, e⟩ | ⟨rfl, e⟩
    · rw [e]; exact RdX.nil
    · rw [e]
      have h2 : RdX w (p :: X') tb m.tok.body := own_rdx h.own (fun k hk => by simp; exact ⟨hbp k hk, hX' k hk⟩)
      exact h2.step hc (by simp) (fun x hx => .inl (by simpa [Value.ownBlock] using hx))
end

/-- What Feed answers. -/
def FeedPost (base : Nat) (w : World) (p : Nat) (m : Mach) (bv : Value) (c : UInt8) (e : Ending) (w' : World) : Prop :=
  ∃ tb bv', e = .returned (.tuple #[.agg (tokV ((feed m c).2.getD noTok) tb), .bool (feed m c).2.isSome]) ∧ Fed base w w' p m bv c tb bv'

theorem neByte {c d : UInt8} {n : Int} (h : ¬ c = d) (hd : (d.toNat : Int) = n) : ((c.toNat : Int) == n) = false := by
  rw [← hd, beq_eq_false_iff_ne]
  exact fun e => h (UInt8.toNat_inj.1 (by omega))

set_option maxHeartbeats 1000000 in
theorem feed3 {base : Nat} {p : Nat} {t : Tok} {bv : Value} (c : UInt8) (w : World) (h : MachAt base w p ⟨3, t⟩ bv) :
    Calls Try.prog 16 #[.pointer (some ⟨p, 0, none⟩), .int .u8 c.toNat] w (FeedPost base w p ⟨3, t⟩ bv c) := by
  have hB := h.blk
  have hplt := hB.lt
  have e0 : w.cell? ⟨p, 0, none⟩ = some (.int .i64 3) := hB.cell 0
  have e1 : w.cell? ⟨p, 1, none⟩ = some (.int .i64 t.kind) := hB.cell 1
  have e2 : w.cell? ⟨p, 2, none⟩ = some (.int .i64 t.code) := hB.cell 2
  have e3 : w.cell? ⟨p, 3, none⟩ = some (.int .i64 t.opt) := hB.cell 3
  have e4 : w.cell? ⟨p, 4, none⟩ = some bv := hB.cell 4
  have e5 : w.cell? ⟨p, 5, none⟩ = some (.bool t.cut) := hB.cell 5
  have f0 := hB.frozen 0
  have f1 := hB.frozen 1
  have f2 := hB.frozen 2
  have f3 := hB.frozen 3
  have f4 := hB.frozen 4
  have f5 := hB.frozen 5
  have hc256 : (c.toNat : Int) < 256 := by have := c.toNat_lt; omega
  go_enter Try.func16, Try.ntmps16
  go_wp2
  refine wp_scope_hops 3 ?_
  go_wp2
  go_step3
  refine hops_goto rfl ?_
  go_wp2
  refine bodyPost_ret (v := .tuple #[.agg #[.int .i64 0, .int .i64 0, .int .i64 0, .slice none 0 0, .bool false], .bool false]) (by simp [results, Try.results16, go_sem]) rfl ⟨_, _, rfl, fedB h c 4 _ _ _ _ _ _ _ rfl rfl rfl rfl rfl rfl rfl (.inl ⟨rfl, rfl⟩) _ _⟩

set_option maxHeartbeats 1000000 in
theorem feed0i {base : Nat} {p : Nat} {bv : Value} (w : World) (h : MachAt base w p ⟨0, noTok⟩ bv) :
    Calls Try.prog 16 #[.pointer (some ⟨p, 0, none⟩), .int .u8 255] w (FeedPost base w p ⟨0, noTok⟩ bv 255) := by
  have hB := h.blk
  have hplt := hB.lt
  have e0 : w.cell? ⟨p, 0, none⟩ = some (.int .i64 0) := hB.cell 0
  have e1 : w.cell? ⟨p, 1, none⟩ = some (.int .i64 0) := hB.cell 1
  have e2 : w.cell? ⟨p, 2, none⟩ = some (.int .i64 0) := hB.cell 2
  have e3 : w.cell? ⟨p, 3, none⟩ = some (.int .i64 0) := hB.cell 3
  have e4 : w.cell? ⟨p, 4, none⟩ = some bv := hB.cell 4
  have e5 : w.cell? ⟨p, 5, none⟩ = some (.bool false) := hB.cell 5
  have f0 := hB.frozen 0
  have f1 := hB.frozen 1
  have f2 := hB.frozen 2
  have f3 := hB.frozen 3
  have f4 := hB.frozen 4
  have f5 := hB.frozen 5
  go_enter Try.func16, Try.ntmps16
  go_wp2
  refine wp_scope_hops 3 ?_
  go_wp2
  go_step3
  refine hops_goto rfl ?_
  go_wp2
  refine bodyPost_ret (v := .tuple #[.agg #[.int .i64 0, .int .i64 0, .int .i64 0, .slice none 0 0, .bool false], .bool false]) (by simp [results, Try.results16, go_sem]) rfl ⟨_, _, rfl, fedA h 255 1 1 rfl rfl _ _⟩

set_option maxHeartbeats 1000000 in
theorem feed0d {base : Nat} {p : Nat} {bv : Value} (c : UInt8) (w : World) (h : MachAt base w p ⟨0, noTok⟩ bv) (hc : ¬ c = 255) :
    Calls Try.prog 16 #[.pointer (some ⟨p, 0, none⟩), .int .u8 c.toNat] w (FeedPost base w p ⟨0, noTok⟩ bv c) := by
  have hB := h.blk
  have hplt := hB.lt
  have e0 : w.cell? ⟨p, 0, none⟩ = some (.int .i64 0) := hB.cell 0
  have e1 : w.cell? ⟨p, 1, none⟩ = some (.int .i64 0) := hB.cell 1
  have e2 : w.cell? ⟨p, 2, none⟩ = some (.int .i64 0) := hB.cell 2
  have e3 : w.cell? ⟨p, 3, none⟩ = some (.int .i64 0) := hB.cell 3
  have e4 : w.cell? ⟨p, 4, none⟩ = some bv := hB.cell 4
  have e5 : w.cell? ⟨p, 5, none⟩ = some (.bool false) := hB.cell 5
  have f0 := hB.frozen 0
  have f1 := hB.frozen 1
  have f2 := hB.frozen 2
  have f3 := hB.frozen 3
  have f4 := hB.frozen 4
  have f5 := hB.frozen 5
  have hc256 : (c.toNat : Int) < 256 := by have := c.toNat_lt; omega
  have bhc : ((c.toNat : Int) == 255) = false := neByte hc (by decide)
  have HC := Lib.hid hc
  clear hc
  go_enter Try.func16, Try.ntmps16
  go_wp2
  refine wp_scope_hops 3 ?_
  go_wp2
  go_step3
  refine hops_goto rfl ?_
  go_wp2
  refine bodyPost_ret (v := .tuple #[.agg #[.int .i64 1, .int .i64 c.toNat, .int .i64 0, .slice none 0 0, .bool false], .bool true]) (by simp [results, Try.results16, go_sem]) rfl ⟨_, _, by simp [feed, HC.out, tokV, noTok], fedB h c 0 noTok (some ⟨1, c.toNat, 0, [], false⟩) _ _ _ _ _ rfl rfl rfl rfl (by simp [feed, HC.out, mach0]) rfl rfl (.inl ⟨rfl, rfl⟩) _ _⟩

set_option maxHeartbeats 1000000 in
theorem feed1i {base : Nat} {p : Nat} {t : Tok} {bv : Value} (w : World) (h : MachAt base w p ⟨1, t⟩ bv) :
    Calls Try.prog 16 #[.pointer (some ⟨p, 0, none⟩), .int .u8 255] w (FeedPost base w p ⟨1, t⟩ bv 255) := by
  have hB := h.blk
  have hplt := hB.lt
  have e0 : w.cell? ⟨p, 0, none⟩ = some (.int .i64 1) := hB.cell 0
  have e1 : w.cell? ⟨p, 1, none⟩ = some (.int .i64 t.kind) := hB.cell 1
  have e2 : w.cell? ⟨p, 2, none⟩ = some (.int .i64 t.code) := hB.cell 2
  have e3 : w.cell? ⟨p, 3, none⟩ = some (.int .i64 t.opt) := hB.cell 3
  have e4 : w.cell? ⟨p, 4, none⟩ = some bv := hB.cell 4
  have e5 : w.cell? ⟨p, 5, none⟩ = some (.bool t.cut) := hB.cell 5
  have f0 := hB.frozen 0
  have f1 := hB.frozen 1
  have f2 := hB.frozen 2
  have f3 := hB.frozen 3
  have f4 := hB.frozen 4
  have f5 := hB.frozen 5
  go_enter Try.func16, Try.ntmps16
  go_wp2
  refine wp_scope_hops 3 ?_
  go_wp2
  go_step3
  refine hops_goto rfl ?_
  go_wp2
  go_step3
  refine hops_goto rfl ?_
  go_wp2
  refine bodyPost_ret (v := .tuple #[.agg #[.int .i64 1, .int .i64 255, .int .i64 0, .slice none 0 0, .bool false], .bool true]) (by simp [results, Try.results16, go_sem]) rfl ⟨_, _, rfl, fedB h 255 0 noTok (some ⟨1, 255, 0, [], false⟩) _ _ _ _ _ rfl rfl rfl rfl rfl rfl rfl (.inl ⟨rfl, rfl⟩) _ _⟩

set_option maxHeartbeats 1000000 in
theorem feed1s {base : Nat} {p : Nat} {t : Tok} {bv : Value} (w : World) (h : MachAt base w p ⟨1, t⟩ bv) :
    Calls Try.prog 16 #[.pointer (some ⟨p, 0, none⟩), .int .u8 250] w (FeedPost base w p ⟨1, t⟩ bv 250) := by
  have hB := h.blk
  have hplt := hB.lt
  have e0 : w.cell? ⟨p, 0, none⟩ = some (.int .i64 1) := hB.cell 0
  have e1 : w.cell? ⟨p, 1, none⟩ = some (.int .i64 t.kind) := hB.cell 1
  have e2 : w.cell? ⟨p, 2, none⟩ = some (.int .i64 t.code) := hB.cell 2
  have e3 : w.cell? ⟨p, 3, none⟩ = some (.int .i64 t.opt) := hB.cell 3
  have e4 : w.cell? ⟨p, 4, none⟩ = some bv := hB.cell 4
  have e5 : w.cell? ⟨p, 5, none⟩ = some (.bool t.cut) := hB.cell 5
  have f0 := hB.frozen 0
  have f1 := hB.frozen 1
  have f2 := hB.frozen 2
  have f3 := hB.frozen 3
  have f4 := hB.frozen 4
  have f5 := hB.frozen 5
  go_enter Try.func16, Try.ntmps16
  go_wp2
  refine wp_scope_hops 3 ?_
  go_wp2
  go_step3
  refine hops_goto rfl ?_
  go_wp2
  go_step3
  refine hops_goto rfl ?_
  go_wp2
  refine bodyPost_ret (v := .tuple #[.agg #[.int .i64 0, .int .i64 0, .int .i64 0, .slice none 0 0, .bool false], .bool false]) (by simp [results, Try.results16, go_sem]) rfl ⟨_, _, rfl, fedA h 250 3 3 rfl rfl _ _⟩

set_option maxHeartbeats 1000000 in
theorem feed1v {base : Nat} {p : Nat} {t : Tok} {bv : Value} (c : UInt8) (w : World) (h : MachAt base w p ⟨1, t⟩ bv) (hc : ¬ c = 255) (hc2 : ¬ c = 250) (hv : 250 < c.toNat) :
    Calls Try.prog 16 #[.pointer (some ⟨p, 0, none⟩), .int .u8 c.toNat] w (FeedPost base w p ⟨1, t⟩ bv c) := by
  have hB := h.blk
  have hplt := hB.lt
  have e0 : w.cell? ⟨p, 0, none⟩ = some (.int .i64 1) := hB.cell 0
  have e1 : w.cell? ⟨p, 1, none⟩ = some (.int .i64 t.kind) := hB.cell 1
  have e2 : w.cell? ⟨p, 2, none⟩ = some (.int .i64 t.code) := hB.cell 2
  have e3 : w.cell? ⟨p, 3, none⟩ = some (.int .i64 t.opt) := hB.cell 3
  have e4 : w.cell? ⟨p, 4, none⟩ = some bv := hB.cell 4
  have e5 : w.cell? ⟨p, 5, none⟩ = some (.bool t.cut) := hB.cell 5
  have f0 := hB.frozen 0
  have f1 := hB.frozen 1
  have f2 := hB.frozen 2
  have f3 := hB.frozen 3
  have f4 := hB.frozen 4
  have f5 := hB.frozen 5
  have hc256 : (c.toNat : Int) < 256 := by have := c.toNat_lt; omega
  have bhc : ((c.toNat : Int) == 255) = false := neByte hc (by decide)
  have HC := Lib.hid hc
  clear hc
  have bhc2 : ((c.toNat : Int) == 250) = false := neByte hc2 (by decide)
  have HC2 := Lib.hid hc2
  clear hc2
  go_enter Try.func16, Try.ntmps16
  go_wp2
  refine wp_scope_hops 3 ?_
  go_wp2_with (go_at_call 38; refine (iacVerbT c _ hv HC.out).mono ?_; rintro e w' ⟨rfl, rfl⟩)
  go_step3
  refine hops_goto rfl ?_
  go_wp2_with (go_at_call 38; refine (iacVerbT c _ hv HC.out).mono ?_; rintro e w' ⟨rfl, rfl⟩)
  go_step3
  refine hops_goto rfl ?_
  go_wp2_with (go_at_call 38; refine (iacVerbT c _ hv HC.out).mono ?_; rintro e w' ⟨rfl, rfl⟩)
  refine bodyPost_ret (v := .tuple #[.agg #[.int .i64 0, .int .i64 0, .int .i64 0, .slice none 0 0, .bool false], .bool false]) (by simp [results, Try.results16, go_sem]) rfl ⟨_, _, by simp [feed, HC.out, HC2.out, hv, tokV, noTok], fedB h c 2 ⟨0, c.toNat, 0, [], false⟩ none _ _ _ _ _ rfl rfl rfl rfl (by simp [feed, HC.out, HC2.out, hv]) rfl rfl (.inl ⟨rfl, rfl⟩) _ _⟩

set_option maxHeartbeats 1000000 in
theorem feed1p {base : Nat} {p : Nat} {t : Tok} {bv : Value} (c : UInt8) (w : World) (h : MachAt base w p ⟨1, t⟩ bv) (hc : ¬ c = 255) (hc2 : ¬ c = 250) (hv : ¬ 250 < c.toNat) :
    Calls Try.prog 16 #[.pointer (some ⟨p, 0, none⟩), .int .u8 c.toNat] w (FeedPost base w p ⟨1, t⟩ bv c) := by
  have hB := h.blk
  have hplt := hB.lt
  have e0 : w.cell? ⟨p, 0, none⟩ = some (.int .i64 1) := hB.cell 0
  have e1 : w.cell? ⟨p, 1, none⟩ = some (.int .i64 t.kind) := hB.cell 1
  have e2 : w.cell? ⟨p, 2, none⟩ = some (.int .i64 t.code) := hB.cell 2
  have e3 : w.cell? ⟨p, 3, none⟩ = some (.int .i64 t.opt) := hB.cell 3
  have e4 : w.cell? ⟨p, 4, none⟩ = some bv := hB.cell 4
  have e5 : w.cell? ⟨p, 5, none⟩ = some (.bool t.cut) := hB.cell 5
  have f0 := hB.frozen 0
  have f1 := hB.frozen 1
  have f2 := hB.frozen 2
  have f3 := hB.frozen 3
  have f4 := hB.frozen 4
  have f5 := hB.frozen 5
  have hc256 : (c.toNat : Int) < 256 := by have := c.toNat_lt; omega
  have bhc : ((c.toNat : Int) == 255) = false := neByte hc (by decide)
  have HC := Lib.hid hc
  clear hc
  have bhc2 : ((c.toNat : Int) == 250) = false := neByte hc2 (by decide)
  have HC2 := Lib.hid hc2
  clear hc2
  go_enter Try.func16, Try.ntmps16
  go_wp2
  refine wp_scope_hops 3 ?_
  go_wp2_with (go_at_call 38; refine (iacVerbF c _ hv).mono ?_; rintro e w' ⟨rfl, rfl⟩)
  go_step3
  refine hops_goto rfl ?_
  go_wp2_with (go_at_call 38; refine (iacVerbF c _ hv).mono ?_; rintro e w' ⟨rfl, rfl⟩)
  go_step3
  refine hops_goto rfl ?_
  go_wp2_with (go_at_call 38; refine (iacVerbF c _ hv).mono ?_; rintro e w' ⟨rfl, rfl⟩)
  refine bodyPost_ret (v := .tuple #[.agg #[.int .i64 2, .int .i64 c.toNat, .int .i64 0, .slice none 0 0, .bool false], .bool true]) (by simp [results, Try.results16, go_sem]) rfl ⟨_, _, by simp [feed, HC.out, HC2.out, hv, tokV], fedB h c 0 noTok (some ⟨2, c.toNat, 0, [], false⟩) _ _ _ _ _ rfl rfl rfl rfl (by simp [feed, HC.out, HC2.out, hv, mach0]) rfl rfl (.inl ⟨rfl, rfl⟩) _ _⟩

set_option maxHeartbeats 1000000 in
theorem feed2 {base : Nat} {p : Nat} {t : Tok} {bv : Value} (c : UInt8) (w : World) (h : MachAt base w p ⟨2, t⟩ bv) :
    Calls Try.prog 16 #[.pointer (some ⟨p, 0, none⟩), .int .u8 c.toNat] w (FeedPost base w p ⟨2, t⟩ bv c) := by
  have hB := h.blk
  have hplt := hB.lt
  have e0 : w.cell? ⟨p, 0, none⟩ = some (.int .i64 2) := hB.cell 0
  have e1 : w.cell? ⟨p, 1, none⟩ = some (.int .i64 t.kind) := hB.cell 1
  have e2 : w.cell? ⟨p, 2, none⟩ = some (.int .i64 t.code) := hB.cell 2
  have e3 : w.cell? ⟨p, 3, none⟩ = some (.int .i64 t.opt) := hB.cell 3
  have e4 : w.cell? ⟨p, 4, none⟩ = some bv := hB.cell 4
  have e5 : w.cell? ⟨p, 5, none⟩ = some (.bool t.cut) := hB.cell 5
  have f0 := hB.frozen 0
  have f1 := hB.frozen 1
  have f2 := hB.frozen 2
  have f3 := hB.frozen 3
  have f4 := hB.frozen 4
  have f5 := hB.frozen 5
  have hc256 : (c.toNat : Int) < 256 := by have := c.toNat_lt; omega
  go_enter Try.func16, Try.ntmps16
  go_wp2
  refine wp_scope_hops 3 ?_
  go_wp2
  go_step3
  refine hops_goto rfl ?_
  go_wp2
  refine bodyPost_ret (v := .tuple #[.agg #[.int .i64 3, .int .i64 t.code, .int .i64 c.toNat, .slice none 0 0, .bool false], .bool true]) (by simp [results, Try.results16, go_sem]) rfl ⟨_, _, rfl, fedB h c 0 noTok (some ⟨3, t.code, c.toNat, [], false⟩) _ _ _ _ _ rfl rfl rfl rfl rfl rfl rfl (.inl ⟨rfl, rfl⟩) _ _⟩

set_option maxHeartbeats 1000000 in
theorem feed4i {base : Nat} {p : Nat} {t : Tok} {bv : Value} (w : World) (h : MachAt base w p ⟨4, t⟩ bv) :
    Calls Try.prog 16 #[.pointer (some ⟨p, 0, none⟩), .int .u8 255] w (FeedPost base w p ⟨4, t⟩ bv 255) := by
  have hB := h.blk
  have hplt := hB.lt
  have e0 : w.cell? ⟨p, 0, none⟩ = some (.int .i64 4) := hB.cell 0
  have e1 : w.cell? ⟨p, 1, none⟩ = some (.int .i64 t.kind) := hB.cell 1
  have e2 : w.cell? ⟨p, 2, none⟩ = some (.int .i64 t.code) := hB.cell 2
  have e3 : w.cell? ⟨p, 3, none⟩ = some (.int .i64 t.opt) := hB.cell 3
  have e4 : w.cell? ⟨p, 4, none⟩ = some bv := hB.cell 4
  have e5 : w.cell? ⟨p, 5, none⟩ = some (.bool t.cut) := hB.cell 5
  have f0 := hB.frozen 0
  have f1 := hB.frozen 1
  have f2 := hB.frozen 2
  have f3 := hB.frozen 3
  have f4 := hB.frozen 4
  have f5 := hB.frozen 5
  go_enter Try.func16, Try.ntmps16
  go_wp2
  refine wp_scope_hops 3 ?_
  go_wp2
  go_step3
  refine hops_goto rfl ?_
  go_wp2
  go_step3
  refine hops_goto rfl ?_
  go_wp2
  refine bodyPost_ret (v := .tuple #[.agg #[.int .i64 0, .int .i64 0, .int .i64 0, .slice none 0 0, .bool false], .bool false]) (by simp [results, Try.results16, go_sem]) rfl ⟨_, _, rfl, fedA h 255 5 5 rfl rfl _ _⟩

set_option maxHeartbeats 1000000 in
theorem feed5e {base : Nat} {p : Nat} {t : Tok} {bv : Value} (w : World) (h : MachAt base w p ⟨5, t⟩ bv) :
    Calls Try.prog 16 #[.pointer (some ⟨p, 0, none⟩), .int .u8 240] w (FeedPost base w p ⟨5, t⟩ bv 240) := by
  have hB := h.blk
  have hplt := hB.lt
  have e0 : w.cell? ⟨p, 0, none⟩ = some (.int .i64 5) := hB.cell 0
  have e1 : w.cell? ⟨p, 1, none⟩ = some (.int .i64 t.kind) := hB.cell 1
  have e2 : w.cell? ⟨p, 2, none⟩ = some (.int .i64 t.code) := hB.cell 2
  have e3 : w.cell? ⟨p, 3, none⟩ = some (.int .i64 t.opt) := hB.cell 3
  have e4 : w.cell? ⟨p, 4, none⟩ = some bv := hB.cell 4
  have e5 : w.cell? ⟨p, 5, none⟩ = some (.bool t.cut) := hB.cell 5
  have f0 := hB.frozen 0
  have f1 := hB.frozen 1
  have f2 := hB.frozen 2
  have f3 := hB.frozen 3
  have f4 := hB.frozen 4
  have f5 := hB.frozen 5
  obtain ⟨A, cp, rfl, _, _, _⟩ := own_rd h.own
  go_enter Try.func16, Try.ntmps16
  go_wp2
  refine wp_scope_hops 3 ?_
  go_wp2
  go_step3
  refine hops_goto rfl ?_
  go_wp2
  go_step3
  refine hops_goto rfl ?_
  go_wp2
  refine bodyPost_ret (v := .tuple #[.agg #[.int .i64 4, .int .i64 t.code, .int .i64 t.opt, .slice A t.body.length cp, .bool t.cut], .bool true]) (by simp [results, Try.results16, go_sem]) rfl ⟨_, _, rfl, fedB h 240 0 noTok (some ⟨4, t.code, t.opt, t.body, t.cut⟩) _ _ _ _ _ rfl rfl rfl rfl rfl rfl rfl (.inr ⟨rfl, rfl⟩) _ _⟩

set_option maxHeartbeats 1000000 in
theorem feed5b {base : Nat} {p : Nat} {t : Tok} {bv : Value} (c : UInt8) (w : World) (h : MachAt base w p ⟨5, t⟩ bv) (hc : ¬ c = 255) (hc2 : ¬ c = 240) :
    Calls Try.prog 16 #[.pointer (some ⟨p, 0, none⟩), .int .u8 c.toNat] w (FeedPost base w p ⟨5, t⟩ bv c) := by
  have hB := h.blk
  have hplt := hB.lt
  have e0 : w.cell? ⟨p, 0, none⟩ = some (.int .i64 5) := hB.cell 0
  have e1 : w.cell? ⟨p, 1, none⟩ = some (.int .i64 t.kind) := hB.cell 1
  have e2 : w.cell? ⟨p, 2, none⟩ = some (.int .i64 t.code) := hB.cell 2
  have e3 : w.cell? ⟨p, 3, none⟩ = some (.int .i64 t.opt) := hB.cell 3
  have e4 : w.cell? ⟨p, 4, none⟩ = some bv := hB.cell 4
  have e5 : w.cell? ⟨p, 5, none⟩ = some (.bool t.cut) := hB.cell 5
  have f0 := hB.frozen 0
  have f1 := hB.frozen 1
  have f2 := hB.frozen 2
  have f3 := hB.frozen 3
  have f4 := hB.frozen 4
  have f5 := hB.frozen 5
  have hc256 : (c.toNat : Int) < 256 := by have := c.toNat_lt; omega
  have bhc : ((c.toNat : Int) == 255) = false := neByte hc (by decide)
  have HC := Lib.hid hc
  clear hc
  have bhc2 : ((c.toNat : Int) == 240) = false := neByte hc2 (by decide)
  have HC2 := Lib.hid hc2
  clear hc2
  go_enter Try.func16, Try.ntmps16
  go_wp2
  refine wp_scope_hops 3 ?_
  go_wp2
  go_step3
  refine hops_goto rfl ?_
  go_wp2
  go_step3
  refine hops_goto rfl ?_
  go_wp2
  refine bodyPost_ret (v := .tuple #[.agg #[.int .i64 5, .int .i64 c.toNat, .int .i64 t.opt, .slice none 0 0, .bool false], .bool true]) (by simp [results, Try.results16, go_sem]) rfl ⟨_, _, by simp [feed, HC.out, HC2.out, tokV], fedB h c 0 noTok (some ⟨5, c.toNat, t.opt, [], false⟩) _ _ _ _ _ rfl rfl rfl rfl (by simp [feed, HC.out, HC2.out, mach0]) rfl rfl (.inl ⟨rfl, rfl⟩) _ _⟩


/-- Behind add: the world of the caller, who has laid two blocks before it. -/
structure Added (base : Nat) (w w1 : World) (p : Nat) (m' : Mach) (bv bv1 : Value) (X Y : Array Value) : Prop where
  mach : MachAt base w1 p m' bv1
  chg : Chg (p :: bv.ownBlock.toList) w w1
  own : bv1.ownBlock = bv.ownBlock ∨ ∃ k, bv1.ownBlock = some k ∧ w.heap.size + 2 ≤ k
  bx : Blk w1 w.heap.size 35 X.toList
  by_ : Blk w1 (w.heap.size + 1) 35 Y.toList
  new : ∀ k, bv1.ownBlock = some k → k ≠ w.heap.size

set_option maxHeartbeats 400000 in
theorem feedAdd {base : Nat} {p : Nat} {m : Mach} {bv : Value} (c : UInt8) (w : World) (X Y : Array Value) (h : MachAt base w p m bv) (h4 : 4 ≤ m.st) :
    Calls Try.prog 39 #[.pointer (some ⟨p, 0, none⟩), .int .u8 c.toNat] ((w.alloc (.cells X 35)).alloc (.cells Y 35)) fun e w1 => e = .returned (.tuple #[]) ∧ ∃ bv1, Added base w w1 p ⟨m.st, addB m.tok c⟩ bv bv1 X Y := by
  have h' : MachAt base ((w.alloc (.cells X 35)).alloc (.cells Y 35)) p m bv := h.keep (((Below.refl _ _).alloc (Nat.le_refl _) _).alloc (by simp) _)
  have hbl : ∀ k, bv.ownBlock = some k → k < w.heap.size := fun k hk => (h.own.lt k hk).2
  have hpl := h.plt
  refine (iacAdd c _ h' h4).mono ?_
  rintro e w1 ⟨rfl, bv1, h1, hc, ho⟩
  simp only [World.size_alloc] at ho
  have hx : w.heap.size ∉ (p :: bv.ownBlock.toList) := by
    simp only [List.mem_cons, Option.mem_toList]
    rintro (h | h)
    · omega
    · have := hbl _ h; omega
  have hy : w.heap.size + 1 ∉ (p :: bv.ownBlock.toList) := by
    simp only [List.mem_cons, Option.mem_toList]
    rintro (h | h)
    · omega
    · have := hbl _ h; omega
  refine ⟨rfl, bv1, h1, (((Chg.refl _ w).alloc _).alloc _).trans hc, ?_, ((Blk.new w _ _).alloc _).chg hc hx, ?_, ?_⟩
  · rcases ho with ho | ⟨k, hk, hl⟩
    · exact .inl ho
    · exact .inr ⟨k, hk, by omega⟩
  · have := (Blk.new (w.alloc (.cells X 35)) 35 Y)
    simp only [World.size_alloc] at this
    exact this.chg hc hy
  · intro k hk e
    subst e
    rcases ho with ho | ⟨k, hk', hl⟩
    · have := hbl _ (ho.symm.trans hk); omega
    · rw [hk] at hk'; cases hk'; omega

theorem fedAdd {base : Nat} {w w1 w' : World} {p : Nat} {m : Mach} {bv bv1 : Value} {X Y : Array Value} {c : UInt8} {m1 m' : Mach} (h : MachAt base w p m bv) (hd : Added base w w1 p m1 bv bv1 X Y) (h1 : feed m c = (m', none)) (hm : m' = m1) (hc : Chg [w.heap.size] w1 w') :
    Fed base w w' p m bv c (.slice none 0 0) bv1 := by
  subst hm
  have hpl := h.plt
  refine ⟨?_, fun _ _ => by rw [h1]; exact RdX.nil, ?_, ?_⟩
  · rw [h1]; exact hd.mach.chg hc (by simp; omega) (fun k hk => by simpa using hd.new k hk)
  · exact hd.chg.more hc (by simp)
  · rcases hd.own with h | ⟨k, h, hl⟩
    · exact .inr (.inl h)
    · exact .inr (.inr ⟨k, h, by omega⟩)

set_option maxHeartbeats 1000000 in
theorem feed4a {base : Nat} {p : Nat} {t : Tok} {bv : Value} (c : UInt8) (w : World) (h : MachAt base w p ⟨4, t⟩ bv) (hc : ¬ c = 255) :
    Calls Try.prog 16 #[.pointer (some ⟨p, 0, none⟩), .int .u8 c.toNat] w (FeedPost base w p ⟨4, t⟩ bv c) := by
  have hB := h.blk
  have hplt := hB.lt
  have e0 : w.cell? ⟨p, 0, none⟩ = some (.int .i64 4) := hB.cell 0
  have f0 := hB.frozen 0
  have hc256 : (c.toNat : Int) < 256 := by have := c.toNat_lt; omega
  have bhc : ((c.toNat : Int) == 255) = false := neByte hc (by decide)
  have HC := Lib.hid hc
  clear hc
  go_enter Try.func16, Try.ntmps16
  go_wp2
  refine wp_scope_hops 3 ?_
  go_wp2
  go_step3
  refine hops_goto rfl ?_
  go_wp2_with (go_at_call 39; refine (feedAdd c w _ _ h (by simp)).mono ?_; rintro e w1 ⟨rfl, bv1, hd⟩; have HD := Lib.hid hd; have hbx := hd.bx; have r0 : w1.cell? ⟨w.heap.size, 0, none⟩ = some (.int .i64 0) := hbx.cell 0; have r1 : w1.cell? ⟨w.heap.size, 1, none⟩ = some (.int .i64 0) := hbx.cell 1; have r2 : w1.cell? ⟨w.heap.size, 2, none⟩ = some (.int .i64 0) := hbx.cell 2; have r3 : w1.cell? ⟨w.heap.size, 3, none⟩ = some (.slice none 0 0) := hbx.cell 3; have r4 : w1.cell? ⟨w.heap.size, 4, none⟩ = some (.bool false) := hbx.cell 4; have k0 := hbx.frozen 0; have k1 := hbx.frozen 1; have k2 := hbx.frozen 2; have k3 := hbx.frozen 3; have k4 := hbx.frozen 4; clear hd hbx)
  go_step3
  refine hops_goto rfl ?_
  go_wp2
  refine bodyPost_ret (v := .tuple #[.agg #[.int .i64 0, .int .i64 0, .int .i64 0, .slice none 0 0, .bool false], .bool false]) (by simp [results, Try.results16, go_sem, r0, r1, r2, r3, r4]) rfl ⟨_, _, by simp [feed, HC.out, tokV, noTok], fedAdd h HD.out (by simp [feed, HC.out]) rfl ((((((Chg.refl _ _).setCell (by simp) _).setCell (by simp) _).setCell (by simp) _).setCell (by simp) _).setCell (by simp) _)⟩

theorem fedAdd5 {base : Nat} {w w1 w' : World} {p : Nat} {t : Tok} {bv bv1 : Value} {X Y : Array Value} {s : Value} (h : MachAt base w p ⟨5, t⟩ bv) (hd : Added base (w.setCell ⟨p, 0, none⟩ s) w1 p ⟨4, addB t 255⟩ bv bv1 X Y) (hc : Chg [w.heap.size] w1 w') :
    Fed base w w' p ⟨5, t⟩ bv 255 (.slice none 0 0) bv1 := by
  have hpl := h.plt
  have hnew := hd.new
  have hown := hd.own
  simp only [World.size_setCell] at hnew hown
  refine ⟨hd.mach.chg hc (by simp; omega) (fun k hk => by simpa using hnew k hk), fun _ _ => RdX.nil, ?_, ?_⟩
  · exact (((Chg.refl (p :: bv.ownBlock.toList) w).setCell (by simp) s).trans hd.chg).more hc (by simp)
  · rcases hown with h | ⟨k, h, hl⟩
    · exact .inr (.inl h)
    · exact .inr (.inr ⟨k, h, by omega⟩)

set_option maxHeartbeats 1000000 in
theorem feed5a {base : Nat} {p : Nat} {t : Tok} {bv : Value} (w : World) (h : MachAt base w p ⟨5, t⟩ bv) :
    Calls Try.prog 16 #[.pointer (some ⟨p, 0, none⟩), .int .u8 255] w (FeedPost base w p ⟨5, t⟩ bv 255) := by
  have hB := h.blk
  have hplt := hB.lt
  have e0 : w.cell? ⟨p, 0, none⟩ = some (.int .i64 5) := hB.cell 0
  have f0 := hB.frozen 0
  have h5 : MachAt base (w.setCell ⟨p, 0, none⟩ (.int .i64 4)) p ⟨4, t⟩ bv := by
    have hc0 : Chg [p] w (w.setCell ⟨p, 0, none⟩ (.int .i64 4)) := (Chg.refl _ _).setCell (by simp) _
    exact ⟨h.blk.set_ 0 (.int .i64 4), own_chg h.own hc0 (fun k hk => by simp; intro e; subst e; exact h.ne hk), h.ne, h.base, ⟨by simp, h.ok.body, fun h => by simp at h, h.ok.kind, fun h => by simp at h⟩⟩
  go_enter Try.func16, Try.ntmps16
  go_wp2
  refine wp_scope_hops 3 ?_
  go_wp2
  go_step3
  refine hops_goto rfl ?_
  go_wp2_with (go_at_call 39; refine (feedAdd 255 (w.setCell ⟨p, 0, none⟩ (.int .i64 4)) _ _ h5 (by simp)).mono ?_; rintro e w1 ⟨rfl, bv1, hd⟩; have HD := Lib.hid hd; have hbx := hd.bx; simp only [World.size_setCell] at hbx; have r0 : w1.cell? ⟨w.heap.size, 0, none⟩ = some (.int .i64 0) := hbx.cell 0; have r1 : w1.cell? ⟨w.heap.size, 1, none⟩ = some (.int .i64 0) := hbx.cell 1; have r2 : w1.cell? ⟨w.heap.size, 2, none⟩ = some (.int .i64 0) := hbx.cell 2; have r3 : w1.cell? ⟨w.heap.size, 3, none⟩ = some (.slice none 0 0) := hbx.cell 3; have r4 : w1.cell? ⟨w.heap.size, 4, none⟩ = some (.bool false) := hbx.cell 4; have k0 := hbx.frozen 0; have k1 := hbx.frozen 1; have k2 := hbx.frozen 2; have k3 := hbx.frozen 3; have k4 := hbx.frozen 4; clear hd hbx)
  go_step3
  refine hops_goto rfl ?_
  go_wp2
  refine bodyPost_ret (v := .tuple #[.agg #[.int .i64 0, .int .i64 0, .int .i64 0, .slice none 0 0, .bool false], .bool false]) (by simp [results, Try.results16, go_sem, r0, r1, r2, r3, r4]) rfl ⟨_, _, rfl, fedAdd5 h HD.out ((((((Chg.refl _ _).setCell (by simp) _).setCell (by simp) _).setCell (by simp) _).setCell (by simp) _).setCell (by simp) _)⟩

theorem mach0_of {m : Mach} (h : MachOk m) (h0 : m.st = 0) : m = ⟨0, noTok⟩ := idle_mach h h0
/-- FEED, whatever the machine and the byte. -/
theorem iacFeed {base : Nat} {p : Nat} {m : Mach} {bv : Value} (c : UInt8) (w : World) (h : MachAt base w p m bv) :
    Calls Try.prog 16 #[.pointer (some ⟨p, 0, none⟩), .int .u8 c.toNat] w (FeedPost base w p m bv c) := by
  obtain ⟨s, t⟩ := m
  have hs := h.ok.st
  have h0 := fun e => mach0_of h.ok e
  simp only at hs h0
  by_cases s0 : s = 0
  · have := h0 s0
    rw [this] at h ⊢
    by_cases hc : c = 255
    · subst hc; exact feed0i w h
    · exact feed0d c w h hc
  by_cases s1 : s = 1
  · subst s1
    by_cases hc : c = 255
    · subst hc; exact feed1i w h
    by_cases hc2 : c = 250
    · subst hc2; exact feed1s w h
    by_cases hv : 250 < c.toNat
    · exact feed1v c w h hc hc2 hv
    · exact feed1p c w h hc hc2 hv
  by_cases s2 : s = 2
  · subst s2; exact feed2 c w h
  by_cases s3 : s = 3
  · subst s3; exact feed3 c w h
  by_cases s4 : s = 4
  · subst s4
    by_cases hc : c = 255
    · subst hc; exact feed4i w h
    · exact feed4a c w h hc
  obtain rfl : s = 5 := by omega
  by_cases hc : c = 255
  · subst hc; exact feed5a w h
  by_cases hc2 : c = 240
  · subst hc2; exact feed5e w h
  · exact feed5b c w h hc hc2
end Go.Proofs.Ytbipkbpcjkgohaa
