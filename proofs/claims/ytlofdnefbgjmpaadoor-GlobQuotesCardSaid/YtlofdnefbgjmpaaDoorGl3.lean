/- Globs: item. -/
import Derived.Test.YtlofdnefbgjmpaaDoorGl2
namespace Go.Proofs.YtlofdnefbgjmpaaDoor
open Go Go.RowKit
attribute [local irreducible] wd

theorem results_nd3 {fn : Func} {p a b : Tmp} (h : fn.results = #[.cell p 28, .tmp a, .tmp b]) {tmps : Array Value} {w : World} {g : Nat} {cs : List Value} {va vb : Value}
    (hp : tmps.getD p undef = .pointer (some ⟨g, 0, none⟩)) (hg : Blk w g 28 cs) (h8 : cs.length = 8) (ha : tmps.getD a undef = va) (hb : tmps.getD b undef = vb) : (results fn tmps).run Tryd.prog w = .ok (.tuple #[.agg cs.toArray, va, vb]) w := by
  have hp' : tmps[p]?.getD undef = .pointer (some ⟨g, 0, none⟩) := by simpa using hp
  have hl : (loadVar 28 ⟨g, 0, none⟩).run Tryd.prog w = .ok (.agg cs.toArray) w :=
    run_loadVar_row w g _ _ cs.toArray (0, 0) _ hg Tryd.underlying28 rfl (by rw [List.size_toArray, h8]; exact nd_size)
  subst ha hb
  simp [results, h, hp', asAddr, hl]
/-- What item answers. -/
def IRes (E : Nat → Addr) (w : World) (r : T × Nat × Nat) (e : Ending) (w' : World) : Prop :=
  Ext w w' ∧ ∃ v : List Value, e = .returned (.tuple #[.agg v.toArray, .int .i64 (r.2.1 : Nat), ev E r.2.2]) ∧ NodeV (fun b => w.heap.size ≤ b) w' r.1 v
theorem starV {w : World} {B g : Nat} (hB : B ≤ g) (hg : Blk w g 28 (nodeC 2 0 false (fun _ => true) none 0 0)) :
    NodeV (fun b => B ≤ b) w (.node 5 0 false noP [allT]) [.int .i64 5, .int .i64 0, .bool false, .int .u64 0, .int .u64 0, .int .u64 0, .int .u64 0, .slice (some ⟨g, 0, none⟩) 1 1] := by
  unfold NodeV
  refine ⟨some ⟨g, 0, none⟩, 1, nodeC 2 0 false (fun _ => true) none 0 0, (node0 _ _ _ _ _ _).symm, Nat.le_refl _, by unfold maxLen; omega, ?_, fun b o x e _ => by cases e; exact hB, ?_⟩
  · have := Blk.rd (n := 1) (size := 8) hg 0 (by simp [nodeC])
    rw [List.drop_zero, List.take_of_length_le (by simp [nodeC])] at this
    exact this
  · exact kidsV_one (leafV _ _ _)
theorem nb_byte {c : UInt8} {n : Nat} (h : c.toNat ≠ n) : ((c.toNat : Int) == (n : Int)) = false := by
  rw [beq_eq_false_iff_ne]; intro e; exact h (by omega)

set_option maxHeartbeats 8000000 in
set_option maxRecDepth 20000 in
theorem glItem (E : Nat → Addr) (l : List UInt8) (hl : l.length ≤ 10000) (h0 : l ≠ []) (w : World) (hE : Env E w) :
    Calls Tryd.prog 56 #[.string ⟨l.toArray⟩] w fun e w' => IRes E w (itemG l) e w' := by
  obtain ⟨gz, hgz⟩ : ∃ gz, w.heap.size = gz := ⟨_, rfl⟩
  have hN0 := Lib.hid (Blk.newA (w := w) hgz 28 zN)
  have hx0 := Lib.hid (Ext.new1 w (.cells zN.toArray 28))
  have HE0 := Lib.hid (hE.keep hx0.out)
  have HGZ := Lib.hid (Nat.le_of_eq hgz)
  clear hE
  unfold zN at hN0 hx0 HE0
  rcases l with _ | ⟨c, r⟩
  · exact absurd rfl h0
  have hI := itemG_cons c r
  have hl63 : (r.length : Int) + 1 ≤ 9223372036854775807 := by simp at hl; omega
  by_cases h1 : c = 42
  focus
    subst h1
    rw [if_pos rfl] at hI
    have HI := Lib.hid hI
    have HTR := Lib.hid (glTrim (42 :: r) hl h0)
    have hsl := stars_le (42 :: r)
    have hlen : ((42 :: r : List UInt8).drop (stars (42 :: r))).length = (42 :: r : List UInt8).length - stars (42 :: r) := List.length_drop
    rw [List.length_cons] at hsl hlen
    generalize (42 :: r : List UInt8).drop (stars (42 :: r)) = l2 at *
    generalize stars (42 :: r) = sn at *
    have hw : IntKind.i64.wrap ((r.length : Int) + 1 - (l2.length : Int)) = (sn : Int) := by
      rw [hlen, wrap_id (by omega) (by omega)]; omega
    clear hI hlen hsl
    go_enter Tryd.func56, Tryd.ntmps56
    go_wp2_with (first
      | (go_at_call 87; refine (setAll _).mono ?_; rintro e wA ⟨rfl, hxA⟩)
      | (go_at_call 58; refine (glSet (fun _ => true) _).mono ?_; rintro e wB ⟨rfl, hxB⟩; have HBN := Lib.hid (Blk.newA (w := wB) rfl 28 (nodeC 2 0 false (fun _ => true) none 0 0)); have HXN := Lib.hid (Ext.trans (Ext.trans hxA hxB) (Ext.new1 wB (.cells (nodeC 2 0 false (fun _ => true) none 0 0).toArray 28))); have HGB := Lib.hid (Ext.trans (Ext.trans hx0.out hxA) hxB).size; have HGL := Lib.hid (Nat.lt_of_lt_of_le hN0.out.lt (Ext.trans hxA hxB).size); clear hxA hxB; unfold nodeC at HBN HXN ⊢)
      | (go_at_call 88; refine (HTR.out _).mono ?_; rintro e wT ⟨rfl, rfl⟩)
      | (refine store_nd rfl (.tmp 2) (.tmp 24) rfl (g := gz) [.int .i64 5, .int .i64 0, .bool false, .int .u64 0, .int .u64 0, .int .u64 0, .int .u64 0, .slice (some ⟨wB.heap.size, 0, none⟩) 1 1] rfl rfl (hN0.out.keep HXN.out) rfl rfl rfl ?_))
    refine bodyPost_ret (v := .tuple #[.agg ([.int .i64 5, .int .i64 0, .bool false, .int .u64 0, .int .u64 0, .int .u64 0, .int .u64 0, .slice (some ⟨wB.heap.size, 0, none⟩) 1 1] : List Value).toArray, .int .i64 (sn : Nat), .nilIface]) (results_nd3 rfl rfl (Blk.row (hN0.out.keep HXN.out) _) rfl rfl rfl) rfl ⟨(Ext.trans hx0.out HXN.out).rowX _ _ HGZ.out, ?_⟩
    rw [HI.out]
    exact ⟨_, rfl, starV HGB.out (Blk.rowFar HBN.out _ (by have := HGL.out; omega))⟩
  rw [if_neg h1] at hI
  have n42 : ((c.toNat : Int) == 42) = false := nb_byte (n := 42) fun e => h1 (UInt8.toNat_inj.1 e)
  clear h1
  by_cases h2 : c = 63
  focus
    subst h2
    rw [if_pos rfl] at hI
    have HI := Lib.hid hI
    clear hI
    go_enter Tryd.func56, Tryd.ntmps56
    go_wp2_with (first
      | (go_at_call 87; refine (setAll _).mono ?_; rintro e wA ⟨rfl, hxA⟩)
      | (go_at_call 58; refine (glSet (fun _ => true) _).mono ?_; rintro e wB ⟨rfl, hxB⟩; have HXB := Lib.hid (Ext.trans hxA hxB))
      | (refine store_nd rfl (.tmp 2) (.tmp 34) rfl (g := gz) (nodeC 2 0 false (fun _ => true) none 0 0) rfl rfl (hN0.out.keep HXB.out) rfl rfl rfl ?_))
    refine bodyPost_ret (v := .tuple #[.agg (nodeC 2 0 false (fun _ => true) none 0 0).toArray, .int .i64 (1 : Nat), .nilIface]) (results_nd3 rfl rfl (Blk.row (hN0.out.keep HXB.out) _) rfl rfl rfl) rfl ⟨(Ext.trans hx0.out HXB.out).rowX _ _ HGZ.out, ?_⟩
    rw [HI.out]
    exact ⟨_, rfl, leafV _ _ _⟩
  rw [if_neg h2] at hI
  have n63 : ((c.toNat : Int) == 63) = false := nb_byte (n := 63) fun e => h2 (UInt8.toNat_inj.1 e)
  clear h2
  by_cases h3 : c = 91
  focus
    subst h3
    rw [if_pos rfl] at hI
    have HQ := Lib.hid (show parseV E (parseS (91 :: r)) = .tuple #[sp (parseS (91 :: r)).1, .int .i64 ((parseS (91 :: r)).2.1 : Nat), ev E (parseS (91 :: r)).2.2] from rfl)
    have HP := Lib.hid (clParse E (91 :: r) hl)
    have HI := Lib.hid hI
    clear hI
    generalize (parseS (91 :: r)).1 = q at *
    generalize (parseS (91 :: r)).2.1 = n at *
    generalize (parseS (91 :: r)).2.2 = k at *
    go_enter Tryd.func56, Tryd.ntmps56
    go_upto_region 10 with (go_at_call 89; refine (HP.out _ (HE0.out.e.sub (by decide)) HE0.out.t).mono ?_; rintro e w4 ⟨rfl, hx4⟩; rw [HQ.out]; unfold sp)
    have hx5 := Lib.hid (Ext.trans hx4 (Ext.new1 w4 (.cells #[.int .u64 (wd q 0 : Nat), .int .u64 (wd q 1 : Nat), .int .u64 (wd q 2 : Nat), .int .u64 (wd q 3 : Nat)] 25)))
    have hS5 := Lib.hid (SB.new (w := w4) rfl q)
    generalize w4.alloc (.cells #[.int .u64 (wd q 0 : Nat), .int .u64 (wd q 1 : Nat), .int .u64 (wd q 2 : Nat), .int .u64 (wd q 3 : Nat)] 25) = w6 at *
    generalize w4.heap.size = gs at *
    obtain ⟨y0, y1, y2, y3⟩ := hS5.out.cells
    go_wp2_with (first
      | (go_at_call 58; refine (glSet q _).mono ?_; rintro e wB ⟨rfl, hxB⟩; have HXB := Lib.hid (Ext.trans hx5.out hxB))
      | (refine store_nd rfl (.tmp 2) (.tmp 44) rfl (g := gz) (nodeC 2 0 false q none 0 0) rfl rfl (hN0.out.keep HXB.out) rfl rfl rfl ?_))
    refine bodyPost_ret (v := .tuple #[.agg (nodeC 2 0 false q none 0 0).toArray, .int .i64 (n : Nat), ev E k]) (results_nd3 rfl rfl (Blk.row (hN0.out.keep HXB.out) _) rfl rfl rfl) rfl ⟨(Ext.trans hx0.out HXB.out).rowX _ _ HGZ.out, ?_⟩
    rw [HI.out]
    exact ⟨_, rfl, leafV _ _ _⟩
  rw [if_neg h3] at hI
  have n91 : ((c.toNat : Int) == 91) = false := nb_byte (n := 91) fun e => h3 (UInt8.toNat_inj.1 e)
  clear h3
  by_cases h4 : c = 92
  focus
    subst h4
    rw [if_pos rfl] at hI
    have HQ := Lib.hid (show sgV E (escS (92 :: r)) = .tuple #[sp (escS (92 :: r)).set, .bool (escS (92 :: r)).one, .int .i64 ((escS (92 :: r)).size : Nat), ev E (escS (92 :: r)).err] from rfl)
    have HP := Lib.hid (clEscape E (92 :: r) hl)
    have HI := Lib.hid hI
    clear hI
    generalize (escS (92 :: r)).set = q at *
    generalize (escS (92 :: r)).size = n at *
    generalize (escS (92 :: r)).err = k at *
    go_enter Tryd.func56, Tryd.ntmps56
    go_upto_region 13 with (go_at_call 90; refine (HP.out _ (HE0.out.e.sub (by decide))).mono ?_; rintro e w4 ⟨rfl, hx4⟩; rw [HQ.out]; unfold sp)
    have hx5 := Lib.hid (Ext.trans hx4 (Ext.new1 w4 (.cells #[.int .u64 (wd q 0 : Nat), .int .u64 (wd q 1 : Nat), .int .u64 (wd q 2 : Nat), .int .u64 (wd q 3 : Nat)] 25)))
    have hS5 := Lib.hid (SB.new (w := w4) rfl q)
    generalize w4.alloc (.cells #[.int .u64 (wd q 0 : Nat), .int .u64 (wd q 1 : Nat), .int .u64 (wd q 2 : Nat), .int .u64 (wd q 3 : Nat)] 25) = w6 at *
    generalize w4.heap.size = gs at *
    obtain ⟨y0, y1, y2, y3⟩ := hS5.out.cells
    go_wp2_with (first
      | (go_at_call 58; refine (glSet q _).mono ?_; rintro e wB ⟨rfl, hxB⟩; have HXB := Lib.hid (Ext.trans hx5.out hxB))
      | (refine store_nd rfl (.tmp 2) (.tmp 57) rfl (g := gz) (nodeC 2 0 false q none 0 0) rfl rfl (hN0.out.keep HXB.out) rfl rfl rfl ?_))
    refine bodyPost_ret (v := .tuple #[.agg (nodeC 2 0 false q none 0 0).toArray, .int .i64 (n : Nat), ev E k]) (results_nd3 rfl rfl (Blk.row (hN0.out.keep HXB.out) _) rfl rfl rfl) rfl ⟨(Ext.trans hx0.out HXB.out).rowX _ _ HGZ.out, ?_⟩
    rw [HI.out]
    exact ⟨_, rfl, leafV _ _ _⟩
  rw [if_neg h4] at hI
  have n92 : ((c.toNat : Int) == 92) = false := nb_byte (n := 92) fun e => h4 (UInt8.toNat_inj.1 e)
  clear h4
  focus
    have h256 := Lib.hid (show c.toNat < 256 from UInt8.toNat_lt c)
    have HI := Lib.hid (show itemG (c :: r) = (.node 2 0 false (fun j => j == c.toNat) [], 1, 0) from hI)
    clear hI
    go_enter Tryd.func56, Tryd.ntmps56
    go_wp2_with (first
      | (go_at_call 59; refine (setOne c.toNat h256.out _).mono ?_; rintro e wA ⟨rfl, hxA⟩)
      | (go_at_call 58; refine (glSet (fun j => j == c.toNat) _).mono ?_; rintro e wB ⟨rfl, hxB⟩; have HXB := Lib.hid (Ext.trans hxA hxB))
      | (refine store_nd rfl (.tmp 2) (.tmp 18) rfl (g := gz) (nodeC 2 0 false (fun j => j == c.toNat) none 0 0) rfl rfl (hN0.out.keep HXB.out) rfl rfl rfl ?_))
    refine bodyPost_ret (v := .tuple #[.agg (nodeC 2 0 false (fun j => j == c.toNat) none 0 0).toArray, .int .i64 (1 : Nat), .nilIface]) (results_nd3 rfl rfl (Blk.row (hN0.out.keep HXB.out) _) rfl rfl rfl) rfl ⟨(Ext.trans hx0.out HXB.out).rowX _ _ HGZ.out, ?_⟩
    rw [HI.out]
    exact ⟨_, rfl, leafV _ _ _⟩
end Go.Proofs.YtlofdnefbgjmpaaDoor
