/- Rows of the call's own under a frame of listed blocks; bytes that lie apart from blocks that turn. Own text. -/
import Derived.Test.YthjnbpfbhmfopaaDoorChg
namespace Go.Proofs.YthjnbpfbhmfopaaDoor
open Go Go.RowKit

/-- append onto a slice of the call's own (plain region); and where the new slice lies. -/
theorem wpList_app2 {P : Program} {w : World} {ops : Array Oper} {rest : List Oper} {o : Oper} {a : Act} {Q : Exit → Act → World → Prop}
    {t e : TypeId} {z : Value} {size bytes : Nat} (E : Elem P t e z size bytes) (hgd : o.guard = none) (s x : Operand)
    (ho : o.op = .call { callee := .builtin .append, args := #[s, x], argTypes := #[t, t] })
    {base : Nat} {v : Value} {n : Nat} {xs : List Value} (hs : a.eval s = v) (hown : w.ownsRow base e size v n xs) (hbase : base ≤ w.heap.size)
    {A : Option Addr} {m c : Nat} {news : List Value} (hx : a.eval x = .slice A m c) (hr : Rd w size A m news) (h1 : ∀ u ∈ news, u.oneCell' = true)
    (h63 : (n + m) * bytes ≤ 140737488355328) (h64 : n + m ≤ maxLen)
    (h : ∀ v' w', w'.ownsRow base e size v' (n + m) (xs ++ news) → Grew base w w' v →
      (∀ (u : Value) (e' : TypeId) (size' n' : Nat) (ys : List Value), w.ownsRow base e' size' u n' ys → Apart u v → w'.ownsRow base e' size' u n' ys ∧ Apart u v') → (v'.ownBlock = v.ownBlock ∨ v'.ownBlock = some w.heap.size) → wpList P ops Q rest (a.put o.dst v') w') :
    wpList P ops Q (o :: rest) a w := by
  obtain ⟨i, hi, hz, hsz, hby⟩ := info_parts E.info
  by_cases hm : news.length = 0
  · -- nothing comes
    have hm0 : m = 0 := by
      have := hr.1; rw [hm] at this
      rcases Nat.mul_eq_zero.1 this.symm with h | h
      · exact h
      · have := E.pos; omega
    subst hm0
    obtain rfl : news = [] := List.eq_nil_of_length_eq_zero hm
    have key : ∀ K : Act → World → Prop, (∀ a w, wpList P ops Q rest a w → K a w) → o.wp P a w K Q := by
      intro K hK
      have hrun : (Builtin.append_ #[t, t] o.type #[v, .slice A 0 c]).run P w = .ok v w := by
        rcases hown.2 with ⟨rfl, rfl⟩ | ⟨g, cap, cur, rfl, _, hg, hnc, hcm, hcs, _⟩
        · cases A with
          | none => simp [Builtin.append_, run_underlying E.und, sizeOf, typeInfo, hi, Builtin.lenOf, Builtin.firstCells]
          | some ad => simp [Builtin.append_, run_underlying E.und, sizeOf, typeInfo, hi, Builtin.lenOf, Builtin.firstCells, loadCells, loadCellsFrom]
        · cases A with
          | none => simp [Builtin.append_, run_underlying E.und, sizeOf, typeInfo, hi, Builtin.lenOf, Builtin.firstCells, hnc, storeCells]
          | some ad => simp [Builtin.append_, run_underlying E.und, sizeOf, typeInfo, hi, Builtin.lenOf, Builtin.firstCells, hnc, storeCells, loadCells, loadCellsFrom]
      unfold Oper.wp execOp
      simp only [ho, resolve, invoke, builtin, Sem.run_bind, Sem.run_pure, Result.andThen_ok, List.map_toArray, List.map_cons, List.map_nil, hs, hx, hrun]
      exact hK _ _ (h v w (by simpa using hown) ⟨World.grownBy.refl _ _, fun k hk => (hown.lt k hk).1⟩ (fun u e' size' n' ys hu ha => ⟨hu, ha⟩) (.inl rfl))
    exact wpList_plain hgd key
  · obtain ⟨b, off, rfl, _, hc⟩ := hr.2 (by omega)
    refine wpList_append_own_at w hgd s x t ho base e i z size bytes E.und hi hz hsz hby E.zs E.pos v n xs hs hown ⟨b, off, none⟩ m c news hx hr.1
      (fun j u hu => by rw [Addr.add_lit]; exact hc j u hu) h1 h64 h63 hbase ?_
    intro v' w' hown' hgrow _ hat
    refine h v' w' hown' ⟨hgrow, fun k hk => (hown.lt k hk).1⟩ (fun u e' size' n' ys hu ha => ⟨hu.kept hgrow ?_, ?_⟩) hat
    · exact ha
    · rcases hat with hat | hat
      · unfold Apart; rw [hat]; exact ha
      · unfold Apart
        rw [hat]
        cases hub : u.ownBlock with
        | none => exact .inl rfl
        | some k => right; intro hk; injection hk with hk; have := (hu.lt k hub).2; omega


theorem Grew.chg {base : Nat} {w w' : World} {v : Value} (h : Grew base w w' v) : Chg v.ownBlock.toList w w' :=
  ⟨h.by_.os, h.by_.tape, h.by_.output, h.by_.size, fun k hk hx => h.by_.block k hk fun e => hx (by rw [← e]; simp)⟩
theorem own_chg {w w' : World} {base : Nat} {e : TypeId} {size n : Nat} {v : Value} {xs : List Value} {X : List Nat} (h : w.ownsRow base e size v n xs) (hc : Chg X w w') (hx : ∀ k, v.ownBlock = some k → k ∉ X) : w'.ownsRow base e size v n xs := by
  refine ⟨h.1, ?_⟩
  rcases h.2 with h' | ⟨g, cap, cur, rfl, hb, hg, hr⟩
  · exact .inl h'
  · have hl := (h.lt g rfl).2
    exact .inr ⟨g, cap, cur, rfl, hb, (hc.block g hl (hx g rfl)).trans hg, hr⟩

theorem Ext.new1 (w : World) (o : Obj) : Ext w (w.alloc o) := (Below.refl _ _).alloc (Nat.le_refl _) o
/-- What turns beside is new. -/
theorem Chg.more {X Y : List Nat} {w w1 w' : World} (h : Chg X w w1) (k : Chg Y w1 w') (hy : ∀ y ∈ Y, y ∈ X ∨ w.heap.size ≤ y) : Chg X w w' :=
  ⟨k.os.trans h.os, k.tape.trans h.tape, k.output.trans h.output, Nat.le_trans h.size k.size, fun i hi hx => (k.block i (Nat.lt_of_lt_of_le hi h.size) fun hm => by
    rcases hy i hm with h' | h'
    · exact hx h'
    · omega).trans (h.block i hi hx)⟩

/-- A slice of bytes that lies in none of the blocks X. -/
def RdX (w : World) (X : List Nat) (v : Value) (l : List UInt8) : Prop :=
  ∃ A n c, v = .slice A n c ∧ n ≤ c ∧ c ≤ maxLen ∧ Rd w 1 A n (bytesV l) ∧ (0 < n → ∀ b o s, A = some ⟨b, o, s⟩ → b ∉ X)
theorem RdX.nil {w : World} {X : List Nat} : RdX w X (.slice none 0 0) [] := ⟨none, 0, 0, rfl, Nat.le_refl _, by unfold maxLen; omega, Rd.nil, fun h => by omega⟩
theorem RdX.step {w w' : World} {X Y X' : List Nat} {v : Value} {l : List UInt8} (h : RdX w X v l) (hc : Chg Y w w') (hy : ∀ y ∈ Y, y ∈ X) (hx : ∀ x ∈ X', x ∈ X ∨ w.heap.size ≤ x) : RdX w' X' v l := by
  obtain ⟨A, n, c, rfl, h1, h2, h3, h4⟩ := h
  have hl : (bytesV l).length = n := by simpa using h3.1
  refine ⟨A, n, c, rfl, h1, h2, h3.chg hc (fun hp b o s e hb => h4 (by omega) b o s e (hy b hb)), fun hp b o s e hb => ?_⟩
  rcases hx b hb with hb | hb
  · exact h4 hp b o s e hb
  · obtain ⟨b', o', e', hlt, _⟩ := h3.2 (by omega)
    rw [e] at e'
    cases e'
    omega
theorem RdX.bytes {w : World} {X : List Nat} {v : Value} {l : List UInt8} (h : RdX w X v l) : IsBytes w v l := by
  obtain ⟨A, n, c, h0, h1, h2, h3, _⟩ := h
  exact ⟨A, n, c, h0, h1, h2, h3⟩
theorem IsBytes.rdx {w : World} {v : Value} {l : List UInt8} (h : IsBytes w v l) {X : List Nat} (hX : ∀ x ∈ X, w.heap.size ≤ x) : RdX w X v l := by
  obtain ⟨A, n, c, h0, h1, h2, h3⟩ := h
  refine ⟨A, n, c, h0, h1, h2, h3, fun hp b o s e hb => ?_⟩
  obtain ⟨b', o', e', hlt, _⟩ := h3.2 (by have := h3.1; omega)
  rw [e] at e'
  cases e'
  have := hX b hb
  omega
theorem own_rdx {w : World} {base : Nat} {e : TypeId} {v : Value} {l : List UInt8} {X : List Nat} (h : w.ownsRow base e 1 v l.length (bytesV l)) (hx : ∀ k, v.ownBlock = some k → k ∉ X) : RdX w X v l := by
  obtain ⟨A, c, rfl, h1, h2, h3⟩ := own_rd h
  refine ⟨A, _, c, rfl, h1, h2, h3, fun hp b o s e => hx b (by rw [e]; rfl)⟩
end Go.Proofs.YthjnbpfbhmfopaaDoor
