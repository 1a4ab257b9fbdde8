/- Rows of the call's own that begin anywhere in their block (a slice of one's own that was sliced), and append onto them. Own text. -/
import Derived.Test.YtnbdmlpnoiljdaaDoorOwn
namespace Go.Proofs.YtnbdmlpnoiljdaaDoor
open Go Go.RowKit

/-- A slice of one-cell elements that lies, with its room, in a block of one's own. -/
def OwnO (w : World) (base : Nat) (e : TypeId) (v : Value) (n : Nat) (xs : List Value) : Prop :=
  xs.length = n ∧ ((v = .slice none 0 0 ∧ n = 0) ∨ ∃ (g o cap : Nat) (cur : List Value), v = .slice (some ⟨g, o, none⟩) n cap ∧ base ≤ g ∧ Blk w g e cur ∧ n ≤ cap ∧ cap ≤ maxLen ∧ o + cap ≤ cur.length ∧ (cur.drop o).take n = xs)

theorem OwnO.lt {w : World} {base : Nat} {e : TypeId} {v : Value} {n : Nat} {xs : List Value} (h : OwnO w base e v n xs) : ∀ k, v.ownBlock = some k → base ≤ k ∧ k < w.heap.size := by
  rcases h.2 with ⟨rfl, _⟩ | ⟨g, o, cap, cur, rfl, hb, hB, _⟩
  · intro k hk; simp [Value.ownBlock] at hk
  · intro k hk; simp [Value.ownBlock] at hk; subst hk; exact ⟨hb, hB.lt⟩
theorem OwnO.chg {w w' : World} {base : Nat} {e : TypeId} {v : Value} {n : Nat} {xs : List Value} {X : List Nat} (h : OwnO w base e v n xs) (hc : Chg X w w') (hx : ∀ k, v.ownBlock = some k → k ∉ X) : OwnO w' base e v n xs := by
  refine ⟨h.1, ?_⟩
  rcases h.2 with h' | ⟨g, o, cap, cur, rfl, hb, hB, hr⟩
  · exact .inl h'
  · exact .inr ⟨g, o, cap, cur, rfl, hb, hB.chg hc (hx g rfl), hr⟩
theorem OwnO.keep {w w' : World} {base : Nat} {e : TypeId} {v : Value} {n : Nat} {xs : List Value} (h : OwnO w base e v n xs) (hc : Ext w w') : OwnO w' base e v n xs :=
  h.chg (X := []) (.of_ext hc) (by simp)
theorem OwnO.nil (w : World) (base : Nat) (e : TypeId) : OwnO w base e (.slice none 0 0) 0 [] := ⟨rfl, .inl ⟨rfl, rfl⟩⟩
theorem OwnO.rd {w : World} {base : Nat} {e : TypeId} {v : Value} {n : Nat} {xs : List Value} (h : OwnO w base e v n xs) : ∃ A c, v = .slice A n c ∧ n ≤ c ∧ c ≤ maxLen ∧ Rd w 1 A n xs := by
  obtain ⟨hl, h⟩ := h
  rcases h with ⟨rfl, rfl⟩ | ⟨g, o, cap, cur, rfl, hb, hB, hn, hm, hc, ht⟩
  · exact ⟨none, 0, rfl, by omega, by unfold maxLen; omega, by omega, fun hp => by omega⟩
  · refine ⟨_, cap, rfl, hn, hm, by omega, fun _ => ⟨g, o, rfl, hB.lt, fun j u hu => ?_⟩⟩
    rw [hB.cell]
    rw [← ht, List.getElem?_take] at hu
    split at hu
    · rwa [List.getElem?_drop] at hu
    · cases hu
theorem OwnO.of_own {w : World} {base : Nat} {e : TypeId} {v : Value} {n : Nat} {xs : List Value} (h : w.ownsRow base e 1 v n xs) : OwnO w base e v n xs := by
  obtain ⟨hl, h⟩ := h
  refine ⟨by omega, ?_⟩
  rcases h with ⟨rfl, rfl⟩ | ⟨g, cap, cur, rfl, hb, hg, hn, hm, hs, ht⟩
  · exact .inl ⟨rfl, rfl⟩
  · exact .inr ⟨g, 0, cap, cur.toList, rfl, hb, by simpa [Blk] using hg, hn, hm, by simp; omega, by simpa using ht⟩
/-- The first element is taken off. -/
theorem OwnO.tail {w : World} {base g o n c : Nat} {e : TypeId} {x : Value} {xs : List Value} (h : OwnO w base e (.slice (some ⟨g, o, none⟩) (n + 1) c) (n + 1) (x :: xs)) (A : Option Addr) (hA : A = if c = 1 then some ⟨g, o, none⟩ else some ⟨g, o + 1, none⟩) : OwnO w base e (.slice A n (c - 1)) n xs := by
  obtain ⟨hl, h⟩ := h
  refine ⟨by simpa using hl, ?_⟩
  rcases h with ⟨h, _⟩ | ⟨g', o', cap, cur, e', hb, hB, hn, hm, hc, ht⟩
  · cases h
  · cases e'
    right
    have hx : (cur.drop (o + 1)).take n = xs := by
      have : (cur.drop o) = cur[o]'(by omega) :: cur.drop (o + 1) := List.drop_eq_getElem_cons (by omega)
      rw [this, List.take_succ_cons] at ht
      exact (List.cons.inj ht).2
    subst hA
    split
    · have : n = 0 := by omega
      subst this
      exact ⟨g, o, c - 1, cur, rfl, hb, hB, by omega, by omega, by omega, by simpa using hx⟩
    · exact ⟨g, o + 1, c - 1, cur, rfl, hb, hB, by omega, by omega, by omega, hx⟩

/-- append onto it: the operation itself. -/
theorem wp_appO {P : Program} {w : World} {o : Oper} {a : Act} {K : Act → World → Prop} {Q : Exit → Act → World → Prop}
    {t e : TypeId} {z : Value} {bytes : Nat} (E : Elem P t e z 1 bytes) (s x : Operand)
    (ho : o.op = .call { callee := .builtin .append, args := #[s, x], argTypes := #[t, t] })
    {base : Nat} {v : Value} {n : Nat} {xs : List Value} (hs : a.eval s = v) (hown : OwnO w base e v n xs) (hbase : base ≤ w.heap.size)
    {A : Option Addr} {m c : Nat} {news : List Value} (hx : a.eval x = .slice A m c) (hr : Rd w 1 A m news) (h1 : ∀ u ∈ news, u.oneCell' = true)
    (h63 : (n + m) * bytes ≤ 140737488355328) (h64 : n + m ≤ maxLen)
    (h : ∀ v' w', OwnO w' base e v' (n + m) (xs ++ news) → Chg v.ownBlock.toList w w' → (v'.ownBlock = v.ownBlock ∨ v'.ownBlock = some w.heap.size) → K (a.put o.dst v') w') :
    o.wp P a w K Q := by
  have hsmall : n + m ≤ 9223372036854775807 := by simp only [maxLen] at h64; omega
  obtain ⟨i, hi, hz, hsz, hby⟩ := info_parts E.info
  have hl := hown.1
  have hml : news.length = m := by simpa using hr.1
  have src : ∀ w', w' = w ∨ w' = w.drew → (Builtin.firstCells 1 m (.slice A m c)).run P w' = .ok news.toArray w' := by
    intro w' hw'
    by_cases hm : m = 0
    · subst hm
      obtain rfl : news = [] := List.eq_nil_of_length_eq_zero hml
      cases A <;> simp [Builtin.firstCells, loadCells, loadCellsFrom]
    · obtain ⟨b, o', rfl, _, hc⟩ := hr.2 (by omega)
      refine run_firstCells_some w' 1 m ⟨b, o', none⟩ m c news (by omega) (fun j u hu => ?_)
      rw [Addr.add_lit]
      rcases hw' with rfl | rfl
      · exact hc j u hu
      · simpa using hc j u hu
  have grow : ∀ (B : Option Addr) (cap : Nat), v = .slice B n cap → cap < n + m → (Builtin.firstCells 1 n (.slice B n cap)).run P w.drew = .ok xs.toArray w.drew → o.wp P a w K Q := by
    rintro B cap rfl hcap hold
    have hn : ¬ (n + m ≤ cap) := by omega
    have hfit : Builtin.nextslicecap (n + m) cap * i.bytes ≤ 281474976710656 := growslice_fits (by omega) (by rw [hby]; exact h63)
    have h63' : ¬ (9223372036854775807 < ((n : Int) + (m : Int))) := by omega
    have h48' : ¬ (281474976710656 < Builtin.nextslicecap (n + m) cap * i.bytes) := by omega
    have hf := src w.drew (.inr rfl)
    have hrun : (Builtin.append_ #[t, t] o.type #[.slice B n cap, .slice A m c]).run P w =
        .ok (.slice (some ⟨w.heap.size, 0, none⟩) (n + m) (grownCap w (n + m) cap e)) (w.drew.alloc (.cells ((xs ++ news).toArray ++ Builtin.zeroCells z.cells (grownCap w (n + m) cap e - (n + m))) e)) := by
      simp [Builtin.append_, run_underlying E.und, sizeOf, typeInfo, zeroValue, hi, hz, hsz, Builtin.lenOf, hn, h63', h48', Question.forced, hf, hold, newRow, grownCap]
      congr 2
      apply Array.ext'
      simp
    have hge := grownCap_ge w (n + m) cap e
    have hgm := grownCap_le_maxLen w (n + m) cap e h64
    unfold Oper.wp execOp
    simp only [ho, resolve, invoke, builtin, Sem.run_bind, Sem.run_pure, Result.andThen_ok, List.map_toArray, List.map_cons, List.map_nil, hs, hx, hrun]
    refine h _ _ ⟨by simp; omega, .inr ⟨w.heap.size, 0, _, (xs ++ news) ++ (Builtin.zeroCells z.cells (grownCap w (n + m) cap e - (n + m))).toList, rfl, hbase, ?_, hge, hgm, ?_, ?_⟩⟩ ?_ (.inr rfl)
    · have := heap_alloc_new w.drew (.cells ((xs ++ news).toArray ++ Builtin.zeroCells z.cells (grownCap w (n + m) cap e - (n + m))) e)
      refine Eq.trans this ?_
      congr 2
      apply Array.ext'
      simp
    · have := size_zeroCells z.cells (grownCap w (n + m) cap e - (n + m))
      rw [E.zs] at this
      simp [this]; omega
    · rw [List.drop_zero, List.take_left' (by simp; omega)]
    · exact ⟨rfl, rfl, rfl, by simp, fun k hk _ => heap_alloc_old w.drew _ (by simpa using hk)⟩
  rcases hown.2 with ⟨rfl, rfl⟩ | ⟨g, off, cap, cur, rfl, hb, hB, hnc, hcm, hcs, ht⟩
  · -- nil
    obtain rfl : xs = [] := List.eq_nil_of_length_eq_zero hl
    by_cases hm : m = 0
    · subst hm
      obtain rfl : news = [] := List.eq_nil_of_length_eq_zero hml
      have hrun : (Builtin.append_ #[t, t] o.type #[.slice none 0 0, .slice A 0 c]).run P w = .ok (.slice none 0 0) w := by
        have hf := src w (.inl rfl)
        cases A <;> simp [Builtin.append_, run_underlying E.und, sizeOf, typeInfo, hi, Builtin.lenOf, Builtin.firstCells, loadCells, loadCellsFrom]
      unfold Oper.wp execOp
      simp only [ho, resolve, invoke, builtin, Sem.run_bind, Sem.run_pure, Result.andThen_ok, List.map_toArray, List.map_cons, List.map_nil, hs, hx, hrun]
      exact h _ _ hown (.refl _ _) (.inl rfl)
    · exact grow none 0 rfl (by omega) (run_firstCells_none w.drew 1 0 0 0)
  · by_cases hroom : n + m ≤ cap
    · have hst := run_storeCells_at P g (off + n) e news 0 cur.toArray w hB (by simp; omega) h1
      simp only [Nat.add_zero] at hst
      have hrun : (Builtin.append_ #[t, t] o.type #[.slice (some ⟨g, off, none⟩) n cap, .slice A m c]).run P w =
          .ok (.slice (some ⟨g, off, none⟩) (n + m) cap) (w.setRow g (cur.take (off + n) ++ news ++ cur.drop (off + n + news.length)).toArray) := by
        have hf := src w (.inl rfl)
        simp [Builtin.append_, run_underlying E.und, sizeOf, typeInfo, hi, hsz, Builtin.lenOf, hroom, hf, Addr.add_lit, hst]
      unfold Oper.wp execOp
      simp only [ho, resolve, invoke, builtin, Sem.run_bind, Sem.run_pure, Result.andThen_ok, List.map_toArray, List.map_cons, List.map_nil, hs, hx, hrun]
      refine h _ _ ⟨by simp; omega, .inr ⟨g, off, cap, _, rfl, hb, setRow_heap w g _ _ e _ hB, hroom, hcm, ?_, ?_⟩⟩ ?_ (.inl rfl)
      · simp; omega
      · rw [List.append_assoc, List.drop_append_of_le_length (by simp; omega), List.drop_take, show off + n - off = n by omega, ht]
        rw [List.take_append, List.take_of_length_le (by omega), hl, show n + m - n = m by omega, List.take_append, List.take_of_length_le (by omega)]
        simp [hml]
      · exact ⟨rfl, rfl, rfl, by simp, fun k _ hk => setRow_other w g k _ (fun e => hk (by simp [Value.ownBlock, e]))⟩
    · refine grow (some ⟨g, off, none⟩) cap rfl (by omega) (run_firstCells_some w.drew 1 n ⟨g, off, none⟩ n cap xs (by omega) (fun j u hu => ?_))
      rw [Addr.add_lit]
      have : w.cell? ⟨g, off + j, none⟩ = some u := by
        rw [hB.cell]
        rw [← ht, List.getElem?_take] at hu
        split at hu
        · rwa [List.getElem?_drop] at hu
        · cases hu
      simpa using this

/-- append onto it (plain region). -/
theorem wpList_appO {P : Program} {w : World} {ops : Array Oper} {rest : List Oper} {o : Oper} {a : Act} {Q : Exit → Act → World → Prop}
    {t e : TypeId} {z : Value} {bytes : Nat} (E : Elem P t e z 1 bytes) (hgd : o.guard = none) (s x : Operand)
    (ho : o.op = .call { callee := .builtin .append, args := #[s, x], argTypes := #[t, t] })
    {base : Nat} {v : Value} {n : Nat} {xs : List Value} (hs : a.eval s = v) (hown : OwnO w base e v n xs) (hbase : base ≤ w.heap.size)
    {A : Option Addr} {m c : Nat} {news : List Value} (hx : a.eval x = .slice A m c) (hr : Rd w 1 A m news) (h1 : ∀ u ∈ news, u.oneCell' = true)
    (h63 : (n + m) * bytes ≤ 140737488355328) (h64 : n + m ≤ maxLen)
    (h : ∀ v' w', OwnO w' base e v' (n + m) (xs ++ news) → Chg v.ownBlock.toList w w' → (v'.ownBlock = v.ownBlock ∨ v'.ownBlock = some w.heap.size) → wpList P ops Q rest (a.put o.dst v') w') :
    wpList P ops Q (o :: rest) a w :=
  wpList_plain hgd fun _ hK => wp_appO E s x ho hs hown hbase hx hr h1 h63 h64 fun v' w' h2 h3 h4 => hK _ _ (h v' w' h2 h3 h4)
/-- The same as one step of a region that draws its order. -/
theorem step_appO {P : Program} {w : World} {ops : Array Oper} {o : Oper} {a : Act} {K : Act → World → Prop} {Q : Exit → Act → World → Prop} {F : Prop}
    {t e : TypeId} {z : Value} {bytes : Nat} (E : Elem P t e z 1 bytes) (hgd : o.guard = none) (s x : Operand)
    (ho : o.op = .call { callee := .builtin .append, args := #[s, x], argTypes := #[t, t] })
    {base : Nat} {v : Value} {n : Nat} {xs : List Value} (hs : a.eval s = v) (hown : OwnO w base e v n xs) (hbase : base ≤ w.heap.size)
    {A : Option Addr} {m c : Nat} {news : List Value} (hx : a.eval x = .slice A m c) (hr : Rd w 1 A m news) (h1 : ∀ u ∈ news, u.oneCell' = true)
    (h63 : (n + m) * bytes ≤ 140737488355328) (h64 : n + m ≤ maxLen)
    (h : ∀ v' w', OwnO w' base e v' (n + m) (xs ++ news) → Chg v.ownBlock.toList w w' → (v'.ownBlock = v.ownBlock ∨ v'.ownBlock = some w.heap.size) → K (a.put o.dst v') w') :
    if Region.wanted o (yielded ops a.tmps) = true then Oper.wp P o a w K Q else F := by
  have hw : Region.wanted o (yielded ops a.tmps) = true := by simp [Region.wanted, hgd]
  rw [if_pos hw]
  exact wp_appO E s x ho hs hown hbase hx hr h1 h63 h64 h
end Go.Proofs.YtnbdmlpnoiljdaaDoor
