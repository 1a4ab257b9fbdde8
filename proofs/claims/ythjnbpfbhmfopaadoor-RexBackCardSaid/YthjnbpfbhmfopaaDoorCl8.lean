/- The document's set of a word set; both told apart. -/
import Derived.Test.YthjnbpfbhmfopaaDoorCl7
import Derived.Test.YthjnbpfbhmfopaaDoorActOf
import Derived.Laws.StructEq
import Derived.Laws.Small
namespace Go.Proofs.YthjnbpfbhmfopaaDoor
open Go Go.RowKit

attribute [local irreducible] wd
theorem wd_cell (p : Nat → Bool) (k : Nat) (hk : k < 4) : (mix (wd p) (wd p) 0)[k]? = some (.int .u64 (wd p k : Nat)) := by
  have h4 : k = 0 ∨ k = 1 ∨ k = 2 ∨ k = 3 := by omega
  rcases h4 with rfl | rfl | rfl | rfl <;> rfl
theorem half (p : Nat → Bool) (c k r X : Nat) (hc : c = 64 * k + r) (hr : r < 64) (hX : wd p k / 2 ^ r = X) : (((X : Nat) : Int).tmod 2 == 1) = p c := by
  have h1 : (wd p k).testBit r = p c := by rw [wd_bit, hc]; simp [hr]
  rw [Nat.testBit_eq_decide_div_mod_eq, hX] at h1
  rw [← h1, show ((X : Nat) : Int).tmod 2 = ((X % 2 : Nat) : Int) from rfl]
  by_cases h : X % 2 = 1
  · simp [h]
  · have h0 : X % 2 = 0 := by omega
    simp [h0]

theorem Blk.rowFar {w : World} {g k : Nat} {e : TypeId} {cs : List Value} (h : Blk w k e cs) (c : Array Value) (hk : k ≠ g) : Blk (w.setRow g c) k e cs := (setRow_other w g k _ hk).trans h

set_option maxHeartbeats 1000000 in
set_option maxRecDepth 20000 in
theorem refOf (p : Nat → Bool) (w : World) :
    Calls Tryd.prog 28 #[sp p] w fun e w' => e = .returned (bp p) ∧ Ext w w' := by
  unfold sp
  go_enter Tryd.func28, Tryd.ntmps28
  go_wp2_with (refine store_set rfl (.tmp 3) (.tmp 7) rfl (g := w.heap.size + 2) (q := fun _ => false) rfl (by rw [← zero28]; rfl) (BB.zero (by simp)) ?_)
  go_loopw [4] (fun iv wr => ∃ i : Nat, i ≤ 256 ∧ iv = .int .i64 i ∧ Blk wr w.heap.size 24 (mix (wd p) (wd p) 0) ∧ BB wr (w.heap.size + 2) (fun j => decide (j < i) && p j) ∧ BB wr (w.heap.size + 1) (fun _ => false) ∧ Ext w wr) (fun iv _ => 256 - (intOf iv).toNat)
  case atStart => exact ⟨0, by omega, rfl, (((Blk.newA rfl _ (mix (wd p) (wd p) 0)).alloc _).alloc _).rowFar _ (by omega), ((BB.zero (w := (w.alloc (.cells (mix (wd p) (wd p) 0).toArray 24)).alloc (.cells Tryd.zeroCells37 37)) (g := w.heap.size + 2) (by simp)).row _).congr (fun c hc => by simp), ((BB.zero (by simp)).alloc _).rowFar _ (by omega), Ext.row (by (first | exact Ext.refl _ | (unfold Ext; repeat (first | exact Below.refl _ _ | assumption | refine Below.alloc ?_ (by first | (simp; done) | (simp; omega) | omega) _ | refine Below.setCell ?_ (by first | (simp; done) | (simp; omega) | omega) _ | refine Below.drew ?_)))) _ _ (by omega)⟩
  case round =>
    obtain ⟨i, hi, rfl, hB, hC, hD, hx⟩ := hrel
    by_cases hlt : i < 256
    · obtain ⟨k, hk⟩ : ∃ k, i / 64 = k := ⟨_, rfl⟩
      obtain ⟨r, hr⟩ : ∃ r, i % 64 = r := ⟨_, rfl⟩
      have hck : i = 64 * k + r := by omega
      have hr6 : r < 64 := by omega
      have hk4 : (k : Int) < 4 := by omega
      have e1 : (i : Int).tdiv 64 = (k : Int) := by rw [← hk]; rfl
      have e2 : (i : Int).tmod 64 = (r : Int) := by rw [← hr]; rfl
      have b0 := hB.cell k
      rw [wd_cell p k (by omega)] at b0
      have c0 := hC.cell hlt
      have f0 := hC.frozen i
      have hlt' : (i : Int) < 256 := by omega
      have HB := Lib.hid hB
      have HC := Lib.hid hC
      have HD := Lib.hid hD
      have HK := Lib.hid hck
      clear hB hC hD hck hk hr
      go_wp2
      go_loopw [5, 6] (fun x jv wr' => ∃ j : Nat, j ≤ r ∧ jv = .int .i64 j ∧ x = .int .u64 (wd p k / 2 ^ j : Nat) ∧ wr' = wr) (fun _ jv _ => 64 - (intOf jv).toNat)
      case atStart => exact ⟨0, by omega, rfl, by simp, by trivial⟩
      case round =>
        obtain ⟨j, hj, rfl, rfl, rfl⟩ := hrel
        obtain ⟨X, hX⟩ : ∃ X, wd p k / 2 ^ j = X := ⟨_, rfl⟩
        rw [hX]
        have e3 : (X : Int).tdiv 2 = ((X / 2 : Nat) : Int) := rfl
        have e4 : wd p k / 2 ^ (j + 1) = X / 2 := by rw [Nat.pow_succ, ← Nat.div_div_eq_div_mul, hX]
        have hX6 : X < 18446744073709551616 := by rw [← hX]; exact Nat.lt_of_le_of_lt (Nat.div_le_self _ _) (wd_lt p k)
        have HX := Lib.hid hX
        have H4 := Lib.hid e4
        clear hX e4
        by_cases hjr : j < r
        · have hjr' : (j : Int) < (r : Int) := by omega
          go_wp2
          go_roundw
          case rel => exact ⟨j + 1, by omega, by go_num, by rw [H4.out]; exact congrArg (Value.int .u64) e3, by trivial⟩
          case measure => simp [intOf]; omega
        · obtain rfl : j = r := by omega
          have e5 := half p i k j X HK.out hr6 HX.out
          replace e5 : ((X : Int) % 2 == 1) = p i := by rw [← e5]; rfl
          go_wp2
          go_roundw
          case rel => exact ⟨i + 1, by omega, by go_num, HB.out.far (by simp; omega) _, (HC.out.set_ i _).congr (fun c hc => by by_cases h : c = i; (subst h; simp); (by_cases h2 : c < i <;> simp [h, h2] <;> omega)), HD.out.far (by simp) _, by (first | exact Ext.refl _ | (unfold Ext; repeat (first | exact Below.refl _ _ | assumption | refine Below.alloc ?_ (by first | (simp; done) | (simp; omega) | omega) _ | refine Below.setCell ?_ (by first | (simp; done) | (simp; omega) | omega) _ | refine Below.drew ?_)))⟩
          case measure => simp [intOf]; omega
    · obtain rfl : i = 256 := by omega
      have HC := hC.congr (q := p) (fun c hc => by simp [hc])
      clear hC
      go_wp2_with (first | (refine load_set rfl (.tmp 3) rfl (g := w.heap.size + 2) rfl HC ?_) | (refine store_set rfl (.tmp 2) (.tmp 29) rfl (g := w.heap.size + 1) rfl rfl hD ?_))
      exact bodyPost_ret (v := bp p) (results_set rfl _ _ (w.heap.size + 1) _ (by simp [Act.put]) (hD.row _)) rfl ⟨rfl, hx.row _ _ (by omega)⟩

section
variable {P : Program}
theorem part_at (e : TypeId) (cs : Array Value) (i : Nat) (v : Value) (ha : ∀ w, (isAgg e).run P w = .ok false w) (hv : cs[i]? = some v) (w : World) :
    (part e cs i).run P w = .ok v w := by
  simp [part, ha, hv]
theorem run_equalIn_arr (d : Nat) (t e : TypeId) (n : Nat) (xs ys : Array Value) (u v : Nat → Value) (b : Nat → Bool) (ht : P.underlying t = some (.array n e)) (he : (P.info? e).map (·.size) = some 1) (ha : ∀ w, (isAgg e).run P w = .ok false w)
    (hx : ∀ i, i < n → xs[i]? = some (u i)) (hy : ∀ i, i < n → ys[i]? = some (v i)) (hb : ∀ i, i < n → ∀ w, (Op.equalIn d e (u i) (v i)).run P w = .ok (b i) w) (w : World) :
    (Op.equalIn (d + 1) t (.agg xs) (.agg ys)).run P w = .ok ((List.range' 0 n).all b) w := by
  have hz : (sizeOf e).run P w = .ok 1 w := by
    cases hq : P.info? e with
    | none => simp [hq] at he
    | some i =>
      simp [hq] at he
      simp [sizeOf, typeInfo, hq, he]
  simp only [Op.equalIn, Sem.run_bind, run_underlying ht, Result.andThen_ok, hz]
  rw [Std.Legacy.Range.forIn_eq_forIn_range']
  have hs : ([:n] : Std.Legacy.Range).size = n := by simp [Std.Legacy.Range.size]
  simp only [hs]
  have key : ∀ (m k : Nat), k + m ≤ n → ((do
      let r ← forIn (List.range' k m) ((none, ()) : Option Bool × Unit) fun i _ => do
        let a ← part e xs (i * 1)
        let c ← part e ys (i * 1)
        let r ← Op.equalIn d e a c
        if (!r) = true then pure (ForInStep.done (some false, ())) else pure (ForInStep.yield (none, ()))
      match r.fst with
      | some a => pure a
      | none => pure true) : Sem Bool).run P w = .ok ((List.range' k m).all b) w := by
    intro m
    induction m with
    | zero => intro k _; simp
    | succ m ih =>
      intro k hk
      have h1 := part_at (P := P) e xs k _ ha (hx k (by omega)) w
      have h2 := part_at (P := P) e ys k _ ha (hy k (by omega)) w
      have h3 := hb k (by omega) w
      have h4 := ih (k + 1) (by omega)
      simp only [List.range'_succ, List.forIn_cons, Sem.run_bind, Nat.mul_one, h1, h2, h3, Result.andThen_ok, List.all_cons] at h4 ⊢
      cases hbk : b k
      · simp
      · simp only [Bool.not_true, Bool.false_eq_true, if_false, Sem.run_pure, Result.andThen_ok, Bool.true_and]
        exact h4
  have := key n 0 (by omega)
  simp only [Sem.run_bind] at this
  refine Eq.trans ?_ this
  congr 1
  funext a w'
  obtain ⟨x, y⟩ := a
  cases x <;> rfl
end
def sameP (p q : Nat → Bool) : Bool := (List.range' 0 256).all fun i => p i == q i
theorem sameP_iff (p q : Nat → Bool) : sameP p q = true ↔ ∀ c, c < 256 → p c = q c := by
  unfold sameP
  rw [List.all_eq_true]
  constructor
  · intro h c hc
    simpa using h c (by simp; omega)
  · intro h c hc
    simp at hc
    simpa using h c (by omega)
set_option maxRecDepth 20000 in
theorem words_same (p q : Nat → Bool) : ((List.range' 0 4).all fun i => ((wd p i : Nat) : Int) == ((wd q i : Nat) : Int)) = sameP p q := by
  rw [Bool.eq_iff_iff, sameP_iff, List.all_eq_true]
  constructor
  · intro h c hc
    have h1 := h (c / 64) (by simp; omega)
    have h3 := wd_inj (Int.natCast_inj.1 (eq_of_beq h1)) (c % 64) (by omega)
    rwa [show 64 * (c / 64) + c % 64 = c by omega] at h3
  · intro h i hi
    simp at hi
    rw [wd_congr (fun j hj => h (64 * i + j) (by omega))]
    exact beq_self_eq_true _
/-- Two sets told apart. -/
theorem eq_set (p q : Nat → Bool) (w : World) : (Op.equalIn 10000 37 (.agg (bcs p)) (.agg (bcs q))).run Tryd.prog w = .ok (sameP p q) w :=
  run_equalIn_arr 9999 _ _ 256 _ _ (fun i => .bool (p i)) (fun i => .bool (q i)) (fun i => p i == q i) Tryd.underlying37 (by kernel_rfl) (fun w => by kernel_rfl) (fun i hi => bcs_get p hi) (fun i hi => bcs_get q hi)
    (fun i _ w => run_equalIn_bool w 9998 _ _ _ Tryd.underlying4) w
set_option maxRecDepth 20000 in
theorem eq_sp (p q : Nat → Bool) (w : World) : (Op.equalIn 10000 25 (.agg #[.int .u64 (wd p 0 : Nat), .int .u64 (wd p 1 : Nat), .int .u64 (wd p 2 : Nat), .int .u64 (wd p 3 : Nat)]) (.agg #[.int .u64 (wd q 0 : Nat), .int .u64 (wd q 1 : Nat), .int .u64 (wd q 2 : Nat), .int .u64 (wd q 3 : Nat)])).run Tryd.prog w = .ok (sameP p q) w := by
  have h := run_equalIn_arr (P := Tryd.prog) 9999 25 23 4 #[.int .u64 (wd p 0 : Nat), .int .u64 (wd p 1 : Nat), .int .u64 (wd p 2 : Nat), .int .u64 (wd p 3 : Nat)] #[.int .u64 (wd q 0 : Nat), .int .u64 (wd q 1 : Nat), .int .u64 (wd q 2 : Nat), .int .u64 (wd q 3 : Nat)]
    (fun i => .int .u64 (wd p i : Nat)) (fun i => .int .u64 (wd q i : Nat)) (fun i => ((wd p i : Nat) : Int) == ((wd q i : Nat) : Int)) Tryd.underlying25 (by kernel_rfl) (fun w => by kernel_rfl)
    (fun i hi => by
      have h4 : i = 0 ∨ i = 1 ∨ i = 2 ∨ i = 3 := by omega
      rcases h4 with rfl | rfl | rfl | rfl <;> rfl)
    (fun i hi => by
      have h4 : i = 0 ∨ i = 1 ∨ i = 2 ∨ i = 3 := by omega
      rcases h4 with rfl | rfl | rfl | rfl <;> rfl)
    (fun i _ w => run_equalIn_int w 9998 _ _ _ _ _ Tryd.underlying23) w
  rw [words_same] at h
  exact h

end Go.Proofs.YthjnbpfbhmfopaaDoor
