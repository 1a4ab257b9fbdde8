import Derived.Test.YthjnbpfbhmfopaaDoorBase
import Derived.Deep.RegionLaw
namespace Go.Proofs.YthjnbpfbhmfopaaDoor
open Go Go.RowKit Go.ChangeShapes

/-- From w to w' only the listed blocks have turned, and blocks are new. -/
structure Chg (X : List Nat) (w w' : World) : Prop where
  os : w'.os = w.os
  tape : w'.tape = w.tape
  output : w'.output = w.output
  size : w.heap.size ≤ w'.heap.size
  block : ∀ k, k < w.heap.size → k ∉ X → w'.heap[k]? = w.heap[k]?

theorem Chg.refl (X : List Nat) (w : World) : Chg X w w := ⟨rfl, rfl, rfl, Nat.le_refl _, fun _ _ _ => rfl⟩
theorem Chg.trans {X : List Nat} {a b c : World} (h : Chg X a b) (k : Chg X b c) : Chg X a c :=
  ⟨k.os.trans h.os, k.tape.trans h.tape, k.output.trans h.output, Nat.le_trans h.size k.size, fun i hi hx => (k.block i (Nat.lt_of_lt_of_le hi h.size) hx).trans (h.block i hi hx)⟩
theorem Chg.mono {X Y : List Nat} {w w' : World} (h : Chg X w w') (hs : ∀ x ∈ X, x ∈ Y) : Chg Y w w' :=
  ⟨h.os, h.tape, h.output, h.size, fun k hk hy => h.block k hk fun hx => hy (hs k hx)⟩
theorem Chg.of_ext {X : List Nat} {w w' : World} (h : Ext w w') : Chg X w w' := ⟨h.os, h.tape, h.output, h.size, fun k hk _ => h.block k hk⟩
/-- Where the listed blocks are newer than w, all that w had is as it was. -/
theorem Chg.ext {X : List Nat} {w w' : World} (h : Chg X w w') (hx : ∀ x ∈ X, w.heap.size ≤ x) : Ext w w' :=
  ⟨h.os, h.tape, h.output, h.size, fun k hk => h.block k hk fun hm => by have := hx k hm; omega⟩
theorem Chg.below {X : List Nat} {w0 w w' : World} {B : Nat} (h : Chg X w w') (hb : Below B w0 w) (hB : B ≤ w.heap.size) (hx : ∀ x ∈ X, B ≤ x) : Below B w0 w' :=
  hb.trans ⟨h.os, h.tape, h.output, h.size, fun k hk => h.block k (by omega) fun hm => by have := hx k hm; omega⟩
theorem Chg.alloc {X : List Nat} {a w : World} (h : Chg X a w) (o : Obj) : Chg X a (w.alloc o) :=
  h.trans (.of_ext ((Below.refl _ _).alloc (Nat.le_refl _) o))
theorem Chg.drew {X : List Nat} {a w : World} (h : Chg X a w) : Chg X a w.drew := ⟨h.os, h.tape, h.output, h.size, h.block⟩
theorem Chg.setCell {X : List Nat} {a w : World} (h : Chg X a w) {p : Addr} (hp : p.block ∈ X) (u : Value) : Chg X a (w.setCell p u) :=
  h.trans ⟨rfl, rfl, rfl, by simp [World.setCell], fun k _ hx => Below.heap_setCell _ _ _ _ fun e => hx (e ▸ hp)⟩
theorem Chg.setNew {X : List Nat} {a w : World} (h : Chg X a w) {p : Addr} (hp : a.heap.size ≤ p.block) (u : Value) : Chg X a (w.setCell p u) :=
  ⟨h.os, h.tape, h.output, by have := h.size; simpa [World.setCell] using this, fun k hk hx => (Below.heap_setCell _ _ _ _ (by omega)).trans (h.block k hk hx)⟩
theorem Chg.cell {X : List Nat} {w w' : World} (h : Chg X w w') {a : Addr} {v : Value} (hc : w.cell? a = some v) (hx : a.block ∉ X) : w'.cell? a = some v := by
  have hlt : a.block < w.heap.size := by
    rcases Nat.lt_or_ge a.block w.heap.size with h' | h'
    · exact h'
    · simp [World.cell?, Array.getElem?_eq_none h'] at hc
  rw [← hc]; exact World.cell?_of_block (h.block _ hlt hx)
theorem Blk.chg {X : List Nat} {w w' : World} {g : Nat} {e : TypeId} {cs : List Value} (h : Blk w g e cs) (hc : Chg X w w') (hg : g ∉ X) : Blk w' g e cs := (hc.block g h.lt hg).trans h
/-- A slice whose block is not one of them. -/
theorem Rd.chg {X : List Nat} {w w' : World} {size n : Nat} {A : Option Addr} {cs : List Value} (h : Rd w size A n cs) (hc : Chg X w w') (hx : 0 < cs.length → ∀ b o v, A = some ⟨b, o, v⟩ → b ∉ X) : Rd w' size A n cs :=
  ⟨h.1, fun hp => by
    obtain ⟨b, o, rfl, hb, hcell⟩ := h.2 hp
    exact ⟨b, o, rfl, Nat.lt_of_lt_of_le hb hc.size, fun j u hu => hc.cell (hcell j u hu) (hx hp b o none rfl)⟩⟩

/-- A slice of what was there is apart from every newer block. -/
theorem Rd.apart {w : World} {size n g : Nat} {A : Option Addr} {cs : List Value} (h : Rd w size A n cs) (hg : w.heap.size ≤ g) : 0 < cs.length → ∀ b o v, A = some ⟨b, o, v⟩ → b ≠ g := fun hp b o v e => by
  obtain ⟨b', o', e', hb, _⟩ := h.2 hp
  rw [e'] at e
  cases e
  omega
/-- copy(dst, src), dst in a block that is known whole: just that block turns. -/
theorem wpList_cpC {P : Program} {w : World} {ops : Array Oper} {rest : List Oper} {o : Oper} {a : Act} {Q : Exit → Act → World → Prop}
    {t e : TypeId} {z : Value} {bytes : Nat} (E : Elem P t e z 1 bytes) (hgd : o.guard = none) (d s : Operand) (ho : o.op = .call { callee := .builtin .copy, args := #[d, s], argTypes := #[t, t] })
    {dp : Option Addr} {dLen dCap : Nat} (hd : a.eval d = .slice dp dLen dCap) {g off : Nat} {cur : List Value} (hB : Blk w g e cur) (hdp : 0 < dLen → dp = some ⟨g, off, none⟩) (hfit : off + dLen ≤ cur.length)
    {A : Option Addr} {n c : Nat} {cs : List Value} (hs : a.eval s = .slice A n c) (hr : Rd w 1 A n cs) (h1 : ∀ u ∈ cs, u.oneCell' = true)
    (h : ∀ w', Blk w' g e (splice cur off (cs.take dLen)) → Chg [g] w w' → wpList P ops Q rest (a.put o.dst (.int .i64 (min n dLen : Nat))) w') :
    wpList P ops Q (o :: rest) a w := by
  obtain ⟨i, hi, hz, hsz, hby⟩ := info_parts E.info
  have hl : cs.length = n := by simpa using hr.1
  have hlen : (cs.take dLen).length = Nat.min n dLen := by rw [List.length_take, hl, Nat.min_comm]
  have hv : (goInt ((cs.take dLen).length : Nat)) = .int .i64 (min n dLen : Nat) := by rw [hlen]; rfl
  by_cases h0 : (cs.take dLen).length = 0
  · have e0 : cs.take dLen = [] := List.eq_nil_of_length_eq_zero h0
    refine wpList_copy_nothing hgd d s t t ho e E.und (by rw [hi]; simp [hsz]) dp A dLen dCap n c hd hs (by rw [← hlen]; exact h0) ?_
    have := h w (by rw [e0]; simpa [splice] using hB) (.refl _ _)
    rw [← hv, h0] at this
    exact this
  · have hd0 : 0 < dLen := by
      rcases Nat.eq_zero_or_pos dLen with h1 | h1
      · rw [h1] at h0; simp at h0
      · exact h1
    have hn0 : 0 < cs.length := by
      rcases Nat.eq_zero_or_pos cs.length with h1 | h1
      · rw [List.length_take, h1] at h0; simp at h0
      · exact h1
    obtain ⟨b, o', rfl, _, hc⟩ := hr.2 hn0
    obtain rfl := hdp hd0
    have hfit2 : off + (cs.take dLen).length ≤ cur.toArray.size := by
      have : (cs.take dLen).length ≤ dLen := List.length_take_le _ _
      show _ ≤ cur.length
      omega
    refine wpList_copy_own hgd d s t t ho e E.und (by rw [hi]; simp [hsz]) g off dLen dCap ⟨b, o', none⟩ n c hd hs cur.toArray e hB (cs.take dLen) hlen (fun j v hv => ?_) hfit2 (fun v hv => h1 v (List.mem_of_mem_take hv)) ?_
    · rw [Addr.add_lit]
      apply hc
      rw [List.getElem?_take] at hv
      split at hv
      · exact hv
      · cases hv
    · rw [hv]
      exact h _ (show _ = _ by simpa [splice] using setRow_heap w g _ _ e _ hB) ⟨rfl, rfl, rfl, by simp [World.setRow], fun k _ hx => setRow_other w g k _ (by simpa using hx)⟩

/-- The same as one step of a region that draws its order. -/
theorem step_cpC {P : Program} {w : World} {ops : Array Oper} {o : Oper} {a : Act} {K : Act → World → Prop} {Q : Exit → Act → World → Prop} {F : Prop}
    {t e : TypeId} {z : Value} {bytes : Nat} (E : Elem P t e z 1 bytes) (hgd : o.guard = none) (d s : Operand) (ho : o.op = .call { callee := .builtin .copy, args := #[d, s], argTypes := #[t, t] })
    {dp : Option Addr} {dLen dCap : Nat} (hd : a.eval d = .slice dp dLen dCap) {g off : Nat} {cur : List Value} (hB : Blk w g e cur) (hdp : 0 < dLen → dp = some ⟨g, off, none⟩) (hfit : off + dLen ≤ cur.length)
    {A : Option Addr} {n c : Nat} {cs : List Value} (hs : a.eval s = .slice A n c) (hr : Rd w 1 A n cs) (h1 : ∀ u ∈ cs, u.oneCell' = true)
    (h : ∀ w', Blk w' g e (splice cur off (cs.take dLen)) → Chg [g] w w' → K (a.put o.dst (.int .i64 (min n dLen : Nat))) w') :
    if Region.wanted o (yielded ops a.tmps) = true then Oper.wp P o a w K Q else F := by
  have hw : Region.wanted o (yielded ops a.tmps) = true := by simp [Region.wanted, hgd]
  rw [if_pos hw]
  obtain ⟨i, hi, hz, hsz, hby⟩ := info_parts E.info
  have hsz' : (P.info? e).map (·.size) = some 1 := by rw [hi]; simp [hsz]
  have hl : cs.length = n := by simpa using hr.1
  have hlen : (cs.take dLen).length = Nat.min n dLen := by rw [List.length_take, hl, Nat.min_comm]
  have hv : (goInt ((cs.take dLen).length : Nat)) = .int .i64 (min n dLen : Nat) := by rw [hlen]; rfl
  have h2 : ∀ w', Blk w' g e (splice cur off (cs.take dLen)) → Chg [g] w w' → K (a.put o.dst (goInt ((cs.take dLen).length : Nat))) w' := by rw [hv]; exact h
  have hd0 : 0 < (cs.take dLen).length → 0 < dLen := fun h0 => by
    rcases Nat.eq_zero_or_pos dLen with h1 | h1
    · rw [h1] at h0; simp at h0
    · exact h1
  have hn0 : 0 < (cs.take dLen).length → 0 < cs.length := fun h0 => by
    rcases Nat.eq_zero_or_pos cs.length with h1 | h1
    · rw [List.length_take, h1] at h0; simp at h0
    · exact h1
  have hfit2 : off + (cs.take dLen).length ≤ cur.toArray.size := by
    have : (cs.take dLen).length ≤ dLen := List.length_take_le _ _
    show _ ≤ cur.length
    omega
  have hsub : ∀ (j : Nat) v, (cs.take dLen)[j]? = some v → cs[j]? = some v := fun j v hv => by
    rw [List.getElem?_take] at hv
    split at hv
    · exact hv
    · cases hv
  have h1' : ∀ u ∈ cs.take dLen, u.oneCell' = true := fun v hv => h1 v (List.mem_of_mem_take hv)
  clear h hv h1
  obtain ⟨ct, hct⟩ : ∃ ct, ct = cs.take dLen := ⟨_, rfl⟩
  rw [← hct] at h2 hd0 hn0 hfit2 hsub h1' hlen
  clear hct
  by_cases h0 : ct.length = 0
  · obtain rfl : ct = [] := List.eq_nil_of_length_eq_zero h0
    have hrun := run_copy_none (P := P) w t t o.type e dp A dLen dCap n c E.und hsz' (by rw [← hlen]; exact h0)
    unfold Oper.wp
    simp [execOp, ho, resolve, invoke, builtin, hd, hs, hrun, Result.andThen]
    exact h2 w (by simpa [splice] using hB) (.refl _ _)
  · obtain ⟨b, o', rfl, _, hc⟩ := hr.2 (hn0 (by omega))
    obtain rfl := hdp (hd0 (by omega))
    have hrun := run_copy_row (P := P) w t t o.type e g off dLen dCap ⟨b, o', none⟩ n c cur.toArray e ct E.und hsz' hB hlen (fun j v hv => by
      rw [Addr.add_lit]
      exact hc _ _ (hsub _ _ hv)) hfit2 h1'
    unfold Oper.wp
    simp [execOp, ho, resolve, invoke, builtin, hd, hs, hrun, Result.andThen]
    exact h2 (w.setRow g ((cur.take off ++ (ct ++ cur.drop (off + ct.length))).toArray)) (show _ = _ by simpa [splice] using setRow_heap w g _ _ e _ hB) ⟨rfl, rfl, rfl, by simp [World.setRow], fun k _ hx => setRow_other w g k _ (by simpa using hx)⟩
end Go.Proofs.YthjnbpfbhmfopaaDoor
