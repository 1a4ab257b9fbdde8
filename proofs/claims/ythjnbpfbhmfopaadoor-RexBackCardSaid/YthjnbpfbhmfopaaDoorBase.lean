/-
  Words for memory, and laws for the walk, that all proofs of this seat share. Own text.
-/
import Derived.Test.YthjnbpfbhmfopaaDoorRows
import Derived.WalkKit
import Derived.WalkSpells
import Derived.WalkLawsBesides
import Derived.Maps.AppendAt
import Derived.Lib.Hide
import Derived.Laws.CopyOwn
namespace Go.Proofs.YthjnbpfbhmfopaaDoor
open Go.RowKit

/-! ### Strings as lists of bytes -/
@[go_sem] theorem bs_size (l : List UInt8) : (⟨l.toArray⟩ : ByteArray).size = l.length := rfl
@[go_sem] theorem bs_get (l : List UInt8) (i : Nat) (h : i < (⟨l.toArray⟩ : ByteArray).size) : (⟨l.toArray⟩ : ByteArray)[i]'h = l[i]'h := rfl
@[go_sem] theorem bs_append (a b : List UInt8) : (⟨a.toArray⟩ : ByteArray) ++ ⟨b.toArray⟩ = ⟨(a ++ b).toArray⟩ := by
  apply ByteArray.ext; simp [ByteArray.data_append]
@[go_sem] theorem bs_extract (l : List UInt8) (i j : Nat) : (⟨l.toArray⟩ : ByteArray).extract i j = ⟨((l.take j).drop i).toArray⟩ := by
  apply ByteArray.ext; simp [ByteArray.data_extract, List.extract_eq_drop_take']
@[go_sem] theorem bs_toList (l : List UInt8) : ByteArray.toList ⟨l.toArray⟩ = l := ByteArray.toList_mk l

/-! ### Bytes, ints, bools as cells -/
def U8 (c : UInt8) : Value := .int .u8 c.toNat
def bytesV (l : List UInt8) : List Value := l.map U8
def boolsV (rs : List Bool) : List Value := rs.map Value.bool
theorem U8_one (c : UInt8) : (U8 c).oneCell' = true := rfl

/-- Only new blocks. -/
def Ext (w w' : World) : Prop := Below w.heap.size w w'
theorem Ext.refl (w : World) : Ext w w := Below.refl _ _
theorem Ext.trans {a b c : World} (h : Ext a b) (k : Ext b c) : Ext a c := Below.trans h (k.mono (Below.size h))

/-- The slice at A with n elements of 'size' cells each reads as the cells cs. -/
def Rd (w : World) (size : Nat) (A : Option Addr) (n : Nat) (cs : List Value) : Prop :=
  cs.length = n * size ∧ (0 < cs.length → ∃ b o, A = some ⟨b, o, none⟩ ∧ b < w.heap.size ∧ ∀ j u, cs[j]? = some u → w.cell? ⟨b, o + j, none⟩ = some u)

theorem Rd.nil {w : World} {size : Nat} {A : Option Addr} : Rd w size A 0 [] := ⟨by simp, fun h => by simp at h⟩
theorem Rd.keep {w w' : World} {size n : Nat} {A : Option Addr} {cs : List Value} (h : Rd w size A n cs) (hb : Below w.heap.size w w') : Rd w' size A n cs :=
  ⟨h.1, fun hn => by
    obtain ⟨b, o, e, hlt, hc⟩ := h.2 hn
    exact ⟨b, o, e, Nat.lt_of_lt_of_le hlt hb.size, fun j u hu => (hb.cell (p := ⟨b, o + j, none⟩) hlt).trans (hc j u hu)⟩⟩
theorem Rd.below {w w' : World} {B size n : Nat} {A : Option Addr} {cs : List Value} (h : Rd w size A n cs) (hb : Below B w w') (hB : w.heap.size ≤ B) : Rd w' size A n cs := h.keep (hb.mono hB)

/-- The slice that was appended to keeps what other rows of the call's own hold. -/
def Apart (v u : Value) : Prop := v.ownBlock = none ∨ v.ownBlock ≠ u.ownBlock
theorem Apart.symm {v u : Value} (h : Apart v u) : Apart u v := by
  unfold Apart at *
  rcases h with h | h
  · cases hu : u.ownBlock with
    | none => exact .inl rfl
    | some k => right; rw [h]; simp
  · exact .inr (Ne.symm h)

/-- What an element type is. -/
structure Elem (P : Program) (t e : TypeId) (z : Value) (size bytes : Nat) : Prop where
  und : P.underlying t = some (.slice e)
  info : (P.info? e).map (fun i => (i.zero, i.size, i.bytes)) = some (some z, size, bytes)
  zs : z.cells.size = size
  pos : 0 < size

theorem own_rd {w : World} {base : Nat} {e : TypeId} {size n : Nat} {v : Value} {xs : List Value} (h : w.ownsRow base e size v n xs) :
    ∃ A c, v = .slice A n c ∧ n ≤ c ∧ c ≤ maxLen ∧ Rd w size A n xs := by
  have h0 := h
  obtain ⟨hl, h⟩ := h
  rcases h with ⟨rfl, rfl⟩ | ⟨g, cap, cur, rfl, hb, hh, hn, hm, hs, ht⟩
  · refine ⟨none, 0, rfl, by omega, by unfold maxLen; omega, hl, fun hp => ?_⟩
    simp at hl; subst hl; simp at hp
  · refine ⟨some ⟨g, 0, none⟩, cap, rfl, hn, hm, hl, fun hp => ⟨g, 0, rfl, ?_, fun j u hu => ?_⟩⟩
    · rcases Nat.lt_or_ge g w.heap.size with hlt | hge
      · exact hlt
      · rw [Array.getElem?_eq_none hge] at hh; cases hh
    · have := h0.cells (g := g) rfl j u hu
      simpa [Addr.add_lit] using this

/-- From w to w' only v's own row has turned (which lies from base on), and blocks are new. -/
structure Grew (base : Nat) (w w' : World) (v : Value) : Prop where
  by_ : w.grownBy w' v.ownBlock
  from_ : ∀ k, v.ownBlock = some k → base ≤ k
theorem Grew.size {base : Nat} {w w' : World} {v : Value} (h : Grew base w w' v) : w.heap.size ≤ w'.heap.size := h.by_.size
theorem Grew.below {base B : Nat} {w0 w w' : World} {v : Value} (h : Grew base w w' v) (hb : Below B w0 w) (h1 : B ≤ base) (h2 : B ≤ w.heap.size) : Below B w0 w' :=
  hb.grown h.by_ h2 fun k hk => Nat.le_trans h1 (h.from_ k hk)
theorem Grew.cell {base : Nat} {w w' : World} {v x : Value} (h : Grew base w w' v) {a : Addr} (hc : w.cell? a = some x) (ha : a.block < base) : w'.cell? a = some x :=
  h.by_.cell hc fun e => by have := h.from_ _ e.symm; omega
theorem Grew.frozen {base : Nat} {w w' : World} {v : Value} (h : Grew base w w' v) {a : Addr} (hf : w.frozen? a = false) (ha : a.block < base) (hs : base ≤ w.heap.size) : w'.frozen? a = false := by
  rw [← hf]; exact World.frozen?_of_block (h.by_.block a.block (by omega) fun e => by have := h.from_ _ e.symm; omega)

theorem own_mono {w : World} {base base' : Nat} {e : TypeId} {size n : Nat} {v : Value} {xs : List Value} (h : w.ownsRow base e size v n xs) (hb : base' ≤ base) : w.ownsRow base' e size v n xs := by
  refine ⟨h.1, ?_⟩
  rcases h.2 with h | ⟨g, cap, cur, h1, h2, h3⟩
  · exact .inl h
  · exact .inr ⟨g, cap, cur, h1, Nat.le_trans hb h2, h3⟩

theorem own_ext {w w' : World} {base : Nat} {e : TypeId} {size n : Nat} {v : Value} {xs : List Value} (h : w.ownsRow base e size v n xs) (hb : Ext w w') : w'.ownsRow base e size v n xs :=
  h.kept (row := none) ⟨hb.os, hb.tape, hb.output, hb.size, fun k hk _ => hb.block k hk⟩ (by cases hv : v.ownBlock <;> simp)
theorem own_alloc {w : World} {base : Nat} {e : TypeId} {size n : Nat} {v : Value} {xs : List Value} (h : w.ownsRow base e size v n xs) (o : Obj) : (w.alloc o).ownsRow base e size v n xs := h.alloc o
theorem Apart.new {w : World} {base : Nat} {e : TypeId} {size n m c : Nat} {v : Value} {xs : List Value} (h : w.ownsRow base e size v n xs) : Apart (.slice (some ⟨w.heap.size, 0, none⟩) m c) v := by
  right
  cases hv : v.ownBlock with
  | none => simp [Value.ownBlock]
  | some k => have := (h.lt k hv).2; simp [Value.ownBlock]; omega

/-- A slice of one-cell elements, each of which says something. -/
def RdL {α : Type} (R : World → Value → α → Prop) (w : World) (A : Option Addr) (n : Nat) (xs : List α) : Prop :=
  ∃ cs, Rd w 1 A n cs ∧ cs.length = xs.length ∧ ∀ (j : Nat) (c : Value) (x : α), cs[j]? = some c → xs[j]? = some x → R w c x
theorem RdL.keep {α : Type} {R : World → Value → α → Prop} (hR : ∀ w w' c x, R w c x → Ext w w' → R w' c x) {w w' : World} {A : Option Addr} {n : Nat} {xs : List α} (h : RdL R w A n xs) (hb : Ext w w') : RdL R w' A n xs := by
  obtain ⟨cs, h1, h2, h3⟩ := h
  exact ⟨cs, h1.keep hb, h2, fun j c x hc hx => hR _ _ _ _ (h3 j c x hc hx) hb⟩
theorem RdL.len {α : Type} {R : World → Value → α → Prop} {w : World} {A : Option Addr} {n : Nat} {xs : List α} (h : RdL R w A n xs) : xs.length = n := by
  obtain ⟨cs, h1, h2, _⟩ := h
  rw [← h2, h1.1]; omega
/-- An element of it: where its cell lies, in this world and all that come of it, and what it says. -/
theorem RdL.at_ {α : Type} {R : World → Value → α → Prop} {w : World} {A : Option Addr} {n : Nat} {xs : List α} (h : RdL R w A n xs) {k : Nat} (hk : k < xs.length) :
    ∃ b o c, A = some ⟨b, o, none⟩ ∧ Hid (∀ w', Below w.heap.size w w' → w'.cell? ⟨b, o + k, none⟩ = some c) ∧ R w c xs[k] := by
  obtain ⟨cs, h1, h2, h3⟩ := h
  obtain ⟨b, o, rfl, hb, hc⟩ := h1.2 (by omega)
  have hkc : k < cs.length := by omega
  exact ⟨b, o, cs[k], rfl, fun w' hw => (hw.cell (p := ⟨b, o + k, none⟩) hb).trans (hc k _ (List.getElem?_eq_getElem hkc)), h3 k _ _ (List.getElem?_eq_getElem hkc) (List.getElem?_eq_getElem hk)⟩

/-- A value that is a slice of bytes. -/
def IsBytes (w : World) (v : Value) (l : List UInt8) : Prop := ∃ A n c, v = .slice A n c ∧ n ≤ c ∧ c ≤ maxLen ∧ Rd w 1 A n (bytesV l)
theorem IsBytes.keep {w w' : World} {v : Value} {l : List UInt8} (h : IsBytes w v l) (hb : Ext w w') : IsBytes w' v l := by
  obtain ⟨A, n, c, h1, h2, h3, h4⟩ := h
  exact ⟨A, n, c, h1, h2, h3, h4.keep hb⟩

/-- append onto a slice of the call's own (plain region). -/
theorem wpList_app {P : Program} {w : World} {ops : Array Oper} {rest : List Oper} {o : Oper} {a : Act} {Q : Exit → Act → World → Prop}
    {t e : TypeId} {z : Value} {size bytes : Nat} (E : Elem P t e z size bytes) (hgd : o.guard = none) (s x : Operand)
    (ho : o.op = .call { callee := .builtin .append, args := #[s, x], argTypes := #[t, t] })
    {base : Nat} {v : Value} {n : Nat} {xs : List Value} (hs : a.eval s = v) (hown : w.ownsRow base e size v n xs) (hbase : base ≤ w.heap.size)
    {A : Option Addr} {m c : Nat} {news : List Value} (hx : a.eval x = .slice A m c) (hr : Rd w size A m news) (h1 : ∀ u ∈ news, u.oneCell' = true)
    (h63 : (n + m) * bytes ≤ 140737488355328) (h64 : n + m ≤ maxLen)
    (h : ∀ v' w', w'.ownsRow base e size v' (n + m) (xs ++ news) → Grew base w w' v →
      (∀ (u : Value) (e' : TypeId) (size' n' : Nat) (ys : List Value), w.ownsRow base e' size' u n' ys → Apart u v → w'.ownsRow base e' size' u n' ys ∧ Apart u v') → wpList P ops Q rest (a.put o.dst v') w') :
    wpList P ops Q (o :: rest) a w := by
  obtain ⟨i, hi, hz, hsz, hby⟩ := info_parts E.info
  by_cases hm : news.length = 0
  · -- nothing comes
    have hm0 : m = 0 := by
      have := hr.1; rw [hm] at this
      rcases Nat.mul_eq_zero.1 this.symm with h | h
      · exact h
      · have := E.pos; omega
    subst hm0
    obtain rfl : news = [] := List.eq_nil_of_length_eq_zero hm
    have key : ∀ K : Act → World → Prop, (∀ a w, wpList P ops Q rest a w → K a w) → o.wp P a w K Q := by
      intro K hK
      have hrun : (Builtin.append_ #[t, t] o.type #[v, .slice A 0 c]).run P w = .ok v w := by
        rcases hown.2 with ⟨rfl, rfl⟩ | ⟨g, cap, cur, rfl, _, hg, hnc, hcm, hcs, _⟩
        · cases A with
          | none => simp [Builtin.append_, run_underlying E.und, sizeOf, typeInfo, hi, Builtin.lenOf, Builtin.firstCells]
          | some ad => simp [Builtin.append_, run_underlying E.und, sizeOf, typeInfo, hi, Builtin.lenOf, Builtin.firstCells, loadCells, loadCellsFrom]
        · cases A with
          | none => simp [Builtin.append_, run_underlying E.und, sizeOf, typeInfo, hi, Builtin.lenOf, Builtin.firstCells, hnc, storeCells]
          | some ad => simp [Builtin.append_, run_underlying E.und, sizeOf, typeInfo, hi, Builtin.lenOf, Builtin.firstCells, hnc, storeCells, loadCells, loadCellsFrom]
      unfold Oper.wp execOp
      simp only [ho, resolve, invoke, builtin, Sem.run_bind, Sem.run_pure, Result.andThen_ok, List.map_toArray, List.map_cons, List.map_nil, hs, hx, hrun]
      exact hK _ _ (h v w (by simpa using hown) ⟨World.grownBy.refl _ _, fun k hk => (hown.lt k hk).1⟩ fun u e' size' n' ys hu ha => ⟨hu, ha⟩)
    exact wpList_plain hgd key
  · obtain ⟨b, off, rfl, _, hc⟩ := hr.2 (by omega)
    refine wpList_append_own_at w hgd s x t ho base e i z size bytes E.und hi hz hsz hby E.zs E.pos v n xs hs hown ⟨b, off, none⟩ m c news hx hr.1
      (fun j u hu => by rw [Addr.add_lit]; exact hc j u hu) h1 h64 h63 hbase ?_
    intro v' w' hown' hgrow _ hat
    refine h v' w' hown' ⟨hgrow, fun k hk => (hown.lt k hk).1⟩ fun u e' size' n' ys hu ha => ⟨hu.kept hgrow ?_, ?_⟩
    · exact ha
    · rcases hat with hat | hat
      · unfold Apart; rw [hat]; exact ha
      · unfold Apart
        rw [hat]
        cases hub : u.ownBlock with
        | none => exact .inl rfl
        | some k => right; intro hk; injection hk with hk; have := (hu.lt k hub).2; omega

/-- The new block of 'append(xs, v)' reads as the one element. -/
theorem rd_one (w : World) (u : Value) (e : TypeId) : Rd (w.alloc (.cells #[u] e)) 1 (some ⟨w.heap.size, 0, none⟩) 1 [u] := by
  refine ⟨rfl, fun _ => ⟨w.heap.size, 0, rfl, by simp, fun j x hx => ?_⟩⟩
  have hj : j = 0 := by
    have := (List.getElem?_eq_some_iff.1 hx).1
    simpa using this
  subst hj
  simp at hx; subst hx
  simp

theorem rd_at {w : World} {u : Value} {e : TypeId} {g : Nat} (hg : w.heap.size = g) : Rd (w.alloc (.cells #[u] e)) 1 (some ⟨g, 0, none⟩) 1 [u] := by subst hg; exact rd_one w u e

theorem one_bytesV (l : List UInt8) : ∀ u ∈ bytesV l, u.oneCell' = true := by
  intro u hu; obtain ⟨_, _, rfl⟩ := List.mem_map.1 hu; rfl
theorem one_one {x : Value} (h : x.oneCell' = true) : ∀ u ∈ [x], u.oneCell' = true := by
  intro u hu; simp at hu; subst hu; exact h

/-- string(b) -/
theorem conv_str {P : Program} {w : World} {src e dst : TypeId} (hs : P.underlying src = some (.slice e)) (he : P.underlying e = some (.int .u8)) (hd : P.underlying dst = some .string)
    {A : Option Addr} {n c : Nat} {l : List UInt8} (hr : Rd w 1 A n (bytesV l)) : (convert src dst (.slice A n c)).run P w = .ok (.string ⟨l.toArray⟩) w := by
  have hl : l.length = n := by simpa [bytesV] using hr.1
  by_cases h0 : l.length = 0
  · obtain rfl : l = [] := List.eq_nil_of_length_eq_zero h0
    simp at hl
    subst hl
    cases A with
    | none => exact run_convert_bytes_nil w src e hs he _ _ dst hd
    | some a =>
      rw [run_convert_bytes_string w src dst e _ _ c hs he hd, run_bytesToString w a 0 c [] (by simp [loadCells, loadCellsFrom])]
      simp [ByteArray.empty, ByteArray.emptyWithCapacity]
      rfl
  · obtain ⟨b, o, rfl, _, hc⟩ := hr.2 (by simp [bytesV]; omega)
    have := run_convert_bytes_arg (P := P) w src e hs he b o n c (l.map fun x => (x.toNat : Int)) (by simpa using hl) (fun i hi => by
      rw [hc i _ (List.getElem?_eq_getElem (by simp [bytesV]; omega))]
      simp [bytesV, U8, List.getD, show i < l.length by omega]) dst hd
    rw [this]
    have e2 : (l.map fun x => (x.toNat : Int)).map (fun n => UInt8.ofNat n.toNat) = l := by
      rw [List.map_map]
      conv => rhs; rw [← List.map_id l]
      apply List.map_congr_left
      intro x _
      simp
    simp only [strOfNums, e2]

/-- string(b), in every world that comes of this one. -/
theorem conv_all {P : Program} {w : World} {src e dst : TypeId} (hs : P.underlying src = some (.slice e)) (he : P.underlying e = some (.int .u8)) (hd : P.underlying dst = some .string)
    {A : Option Addr} {n c : Nat} {l : List UInt8} (hr : Rd w 1 A n (bytesV l)) : ∀ w', Below w.heap.size w w' → (convert src dst (.slice A n c)).run P w' = .ok (.string ⟨l.toArray⟩) w' :=
  fun _ hw => conv_str hs he hd (hr.keep hw)

/-- A slice over a block that is known whole is the call's own. -/
theorem own_new {w : World} {base g n cap : Nat} {e : TypeId} {size : Nat} {cur : Array Value} (hg : w.heap[g]? = some (.cells cur e (0, 0))) (hb : base ≤ g) (hn : n ≤ cap) (hm : cap ≤ maxLen) (hs : cur.size = cap * size) :
    w.ownsRow base e size (.slice (some ⟨g, 0, none⟩) n cap) n (cur.toList.take (n * size)) := by
  refine ⟨?_, .inr ⟨g, cap, cur, rfl, hb, hg, hn, hm, hs, rfl⟩⟩
  have : n * size ≤ cap * size := Nat.mul_le_mul_right _ hn
  simp; omega
theorem own_empty (w : World) (e : TypeId) (size : Nat) : (w.alloc (.cells #[] e)).ownsRow w.heap.size e size (.slice (some ⟨w.heap.size, 0, none⟩) 0 0) 0 [] := by
  simpa using own_new (cap := 0) (n := 0) (size := size) (heap_alloc_new w (.cells #[] e)) (Nat.le_refl _) (Nat.le_refl _) (by unfold maxLen; omega) (by simp)

/-- Block g is just these cells, none frozen. -/
def Blk (w : World) (g : Nat) (e : TypeId) (cs : List Value) : Prop := w.heap[g]? = some (.cells cs.toArray e (0, 0))
section
variable {w w' : World} {g : Nat} {e : TypeId} {cs : List Value}
theorem Blk.lt (h : Blk w g e cs) : g < w.heap.size := by
  rcases Nat.lt_or_ge g w.heap.size with hlt | hge
  · exact hlt
  · unfold Blk at h; rw [Array.getElem?_eq_none hge] at h; cases h
theorem Blk.cell (h : Blk w g e cs) (i : Nat) : w.cell? ⟨g, i, none⟩ = cs[i]? := by
  unfold Blk at h; simp [World.cell?, h]
theorem Blk.cell_get (h : Blk w g e cs) {i : Nat} (hi : i < cs.length) : w.cell? ⟨g, i, none⟩ = some cs[i] := by
  rw [h.cell, List.getElem?_eq_getElem hi]
theorem Blk.frozen (h : Blk w g e cs) (i : Nat) : w.frozen? ⟨g, i, none⟩ = false := by
  unfold Blk at h
  simp [World.frozen?, h]
theorem Blk.new (w : World) (e : TypeId) (cs : Array Value) : Blk (w.alloc (.cells cs e)) w.heap.size e cs.toList := by
  unfold Blk; simpa using heap_alloc_new w (.cells cs e)
theorem Blk.newL (w : World) (e : TypeId) (cs : List Value) : Blk (w.alloc (.cells cs.toArray e)) w.heap.size e cs := heap_alloc_new w _
theorem Blk.alloc (h : Blk w g e cs) (o : Obj) : Blk (w.alloc o) g e cs := (Below.heap_alloc w o g h.lt).trans h
theorem Blk.set_ (h : Blk w g e cs) (i : Nat) (u : Value) : Blk (w.setCell ⟨g, i, none⟩ u) g e (cs.set i u) := by
  unfold Blk at h ⊢
  simp [World.setCell, Array.getElem?_modify, h]
theorem Blk.far (h : Blk w g e cs) {p : Addr} (hp : g ≠ p.block) (u : Value) : Blk (w.setCell p u) g e cs := (Below.heap_setCell w p u g hp).trans h
theorem Blk.below {B : Nat} (h : Blk w g e cs) (hb : Below B w w') (hg : g < B) : Blk w' g e cs := (hb.block g hg).trans h
theorem Blk.keep (h : Blk w g e cs) (hb : Below w.heap.size w w') : Blk w' g e cs := h.below hb h.lt
theorem Blk.grew {base : Nat} {v : Value} (h : Blk w g e cs) (hb : Grew base w w' v) (hg : some g ≠ v.ownBlock) : Blk w' g e cs := (hb.by_.block g h.lt hg).trans h
theorem Blk.own {base n cap size : Nat} (h : Blk w g e cs) (hb : base ≤ g) (hn : n ≤ cap) (hm : cap ≤ maxLen) (hs : cs.length = cap * size) :
    w.ownsRow base e size (.slice (some ⟨g, 0, none⟩) n cap) n (cs.take (n * size)) := by
  simpa using own_new (size := size) (cur := cs.toArray) h hb hn hm (by simpa using hs)
theorem Blk.rd {n size : Nat} (h : Blk w g e cs) (o : Nat) (hs : o + n * size ≤ cs.length) : Rd w size (some ⟨g, o, none⟩) n ((cs.drop o).take (n * size)) := by
  refine ⟨by simp; omega, fun _ => ⟨g, o, rfl, h.lt, fun j u hu => ?_⟩⟩
  rw [h.cell]
  rw [List.getElem?_take] at hu
  split at hu
  · rwa [List.getElem?_drop] at hu
  · cases hu
end

/-- make([]T, n, cap) with sizes that are variables. -/
theorem wpList_mk {P : Program} {w : World} {ops : Array Oper} {rest : List Oper} {o : Oper} {a : Act} {Q : Exit → Act → World → Prop}
    {t e : TypeId} {z : Value} {size bytes : Nat} (E : Elem P t e z size bytes) (hg : o.guard = none) (l c : Operand) (hop : o.op = Op.makeSlice t l c)
    {kl kc : IntKind} {L C : Int} {n cap : Nat} (hl : a.eval l = .int kl L) (hc : a.eval c = .int kc C) (hL : L = (n : Int)) (hC : C = (cap : Int)) (hn : n ≤ cap) (hb : bytes * cap ≤ 281474976710656) (hm : cap ≤ maxLen)
    (hK : wpList P ops Q rest (a.put o.dst (.slice (some ⟨w.heap.size, 0, none⟩) n cap)) (w.alloc (.cells (madeCells z.cells (cap * size)) e))) :
    wpList P ops Q (o :: rest) a w := by
  obtain ⟨i, hi, hz, hsz, hby⟩ := info_parts E.info
  refine wpList_plain hg fun K hK' => ?_
  subst hL hC hsz hby
  have h1 : (i.bytes : Int) * (cap : Int) ≤ 281474976710656 := by
    have h : ((i.bytes * cap : Nat) : Int) ≤ 281474976710656 := by omega
    rwa [Int.natCast_mul] at h
  have hm' : cap ≤ 9223372036854775807 := by unfold maxLen at hm; omega
  have hrun := run_make (P := P) w t e i z E.und hi hz kl kc n cap (by omega) (by omega) h1 (by omega)
  simp only [Int.toNat_natCast] at hrun
  unfold Oper.wp
  simp [execOp, hop, hl, hc, hrun, Result.andThen]
  exact hK' _ _ hK
/-- The same for elements of one cell; the new world is a letter. -/
theorem wpList_mk1 {P : Program} {w : World} {ops : Array Oper} {rest : List Oper} {o : Oper} {a : Act} {Q : Exit → Act → World → Prop}
    {t e : TypeId} {z : Value} {bytes : Nat} (E : Elem P t e z 1 bytes) (hz : z.cells = #[z]) (hg : o.guard = none) (l c : Operand) (hop : o.op = Op.makeSlice t l c)
    {kl kc : IntKind} {L C : Int} {n cap : Nat} (hl : a.eval l = .int kl L) (hc : a.eval c = .int kc C) (hL : L = (n : Int)) (hC : C = (cap : Int)) (hn : n ≤ cap) (hb : bytes * cap ≤ 281474976710656) (hm : cap ≤ maxLen)
    (hK : ∀ w', Blk w' w.heap.size e (List.replicate cap z) → Below w.heap.size w w' → wpList P ops Q rest (a.put o.dst (.slice (some ⟨w.heap.size, 0, none⟩) n cap)) w') :
    wpList P ops Q (o :: rest) a w := by
  refine wpList_mk E hg l c hop hl hc hL hC hn hb hm (hK _ ?_ ((Below.refl _ _).alloc (Nat.le_refl _) _))
  have := Blk.new w e (madeCells z.cells (cap * 1))
  rw [hz, toList_madeCells_one, Nat.mul_one] at this
  rw [hz, Nat.mul_one]
  exact this

/-- copy(dst, src), dst in a block that is known whole. -/
theorem wpList_cp {P : Program} {w : World} {ops : Array Oper} {rest : List Oper} {o : Oper} {a : Act} {Q : Exit → Act → World → Prop}
    {t e : TypeId} {z : Value} {bytes : Nat} (E : Elem P t e z 1 bytes) (hgd : o.guard = none) (d s : Operand) (ho : o.op = .call { callee := .builtin .copy, args := #[d, s], argTypes := #[t, t] })
    {dp : Option Addr} {dLen dCap : Nat} (hd : a.eval d = .slice dp dLen dCap) {g off : Nat} {cur : List Value} (hB : Blk w g e cur) (hdp : 0 < dLen → dp = some ⟨g, off, none⟩) (hfit : off + dLen ≤ cur.length)
    {A : Option Addr} {n c : Nat} {cs : List Value} (hs : a.eval s = .slice A n c) (hr : Rd w 1 A n cs) (h1 : ∀ u ∈ cs, u.oneCell' = true) {B : Nat} {w0 : World} (hb : Below B w0 w) (hBg : B ≤ g)
    (h : ∀ w', Blk w' g e (splice cur off (cs.take dLen)) → Below B w0 w' → wpList P ops Q rest (a.put o.dst (.int .i64 (min n dLen : Nat))) w') :
    wpList P ops Q (o :: rest) a w := by
  obtain ⟨i, hi, hz, hsz, hby⟩ := info_parts E.info
  have hl : cs.length = n := by simpa using hr.1
  have hlen : (cs.take dLen).length = Nat.min n dLen := by rw [List.length_take, hl, Nat.min_comm]
  refine wpList_copy_splice hgd d s t t ho e E.und (by rw [hi]; simp [hsz]) dp A dLen dCap n c hd hs g off cur e hB (cs.take dLen) hlen ?_ ?_ (fun v hv => h1 v (List.mem_of_mem_take hv)) B w0 hb hBg ?_
  · intro hp
    have hp' : 0 < Nat.min n dLen := by rw [← hlen]; exact hp
    have hd0 : 0 < dLen := by
      rcases Nat.eq_zero_or_pos dLen with h0 | h0
      · rw [h0] at hp'; simp at hp'
      · exact h0
    have hn0 : 0 < cs.length := by
      rw [hl]
      rcases Nat.eq_zero_or_pos n with h0 | h0
      · rw [h0] at hp'; simp at hp'
      · exact h0
    obtain ⟨b, o', rfl, _, hc⟩ := hr.2 hn0
    refine ⟨hdp hd0, _, rfl, fun j v hv => ?_⟩
    rw [Addr.add_lit]
    apply hc
    rw [List.getElem?_take] at hv
    split at hv
    · exact hv
    · cases hv
  · have : (cs.take dLen).length ≤ dLen := by rw [List.length_take]; omega
    omega
  · intro w' HG hb'
    have hv : (goInt ((cs.take dLen).length : Nat)) = .int .i64 (min n dLen : Nat) := by rw [hlen]; rfl
    rw [hv]
    exact h w' HG hb'

theorem rep_set {α : Type} (n k : Nat) (x y : α) (h : k < n) : (List.replicate k x ++ List.replicate (n - k) y).set k x = List.replicate (k + 1) x ++ List.replicate (n - (k + 1)) y := by
  apply List.ext_getElem?
  intro j
  simp only [List.getElem?_set, List.getElem?_append, List.getElem?_replicate, List.length_replicate, List.length_append]
  by_cases h1 : j < k
  · simp [h1, show ¬ k = j by omega, show j < k + 1 by omega]
  · by_cases h2 : k = j
    · subst h2; simp; omega
    · by_cases h3 : j < n
      · simp [h1, h2, show ¬ j < k + 1 by omega, show j - k < n - k by omega, show j - (k + 1) < n - (k + 1) by omega]
      · simp [h1, h2, show ¬ j < k + 1 by omega, show ¬ j - k < n - k by omega, show ¬ j - (k + 1) < n - (k + 1) by omega]
theorem Blk.some_ {w : World} {g : Nat} {e : TypeId} {cs : List Value} (h : Blk w g e cs) {i : Nat} (hi : i < cs.length) : ∃ x, w.cell? ⟨g, i, none⟩ = some x := ⟨_, h.cell_get hi⟩

theorem Grew.cell2 {base : Nat} {w w1 : World} {o : Obj} {v x : Value} (h : Grew base (w.alloc o) w1 v) {a : Addr} (hc : w.cell? a = some x) (ha : a.block < base) (hs : base ≤ w.heap.size) : w1.cell? a = some x :=
  h.cell ((World.cell?_alloc_lt w o a (by omega)).trans hc) ha
theorem Grew.frozen2 {base : Nat} {w w1 : World} {o : Obj} {v : Value} (h : Grew base (w.alloc o) w1 v) {a : Addr} (hf : w.frozen? a = false) (ha : a.block < base) (hs : base ≤ w.heap.size) : w1.frozen? a = false :=
  h.frozen ((World.frozen?_of_block (Below.heap_alloc w o a.block (by omega))).trans hf) ha (by simp; omega)
theorem Grew.size2 {base : Nat} {w w1 : World} {o : Obj} {v : Value} (h : Grew base (w.alloc o) w1 v) : w.heap.size ≤ w1.heap.size := by have := h.size; simp at this; omega

/-- A slice of bytes that isn't empty: where its cells lie, in this world and all that come of it. -/
theorem Rd.bytes {w : World} {A : Option Addr} {n : Nat} {l : List UInt8} (h : Rd w 1 A n (bytesV l)) (hp : 0 < l.length) :
    ∃ b o, A = some ⟨b, o, none⟩ ∧ Hid (∀ w', Below w.heap.size w w' → ∀ i (hi : i < l.length), w'.cell? ⟨b, o + i, none⟩ = some (.int .u8 (l[i].toNat : Int))) := by
  obtain ⟨b, o, rfl, hb, hc⟩ := h.2 (by simpa [bytesV] using hp)
  refine ⟨b, o, rfl, fun w' hw i hi => ?_⟩
  rw [hw.cell (p := ⟨b, o + i, none⟩) hb]
  exact hc i _ (by simp [bytesV, U8, hi])
theorem Rd.bools {w : World} {A : Option Addr} {n : Nat} {l : List Bool} (h : Rd w 1 A n (boolsV l)) (hp : 0 < l.length) :
    ∃ b o, A = some ⟨b, o, none⟩ ∧ Hid (∀ w', Below w.heap.size w w' → ∀ i (hi : i < l.length), w'.cell? ⟨b, o + i, none⟩ = some (.bool l[i])) := by
  obtain ⟨b, o, rfl, hb, hc⟩ := h.2 (by simpa [boolsV] using hp)
  refine ⟨b, o, rfl, fun w' hw i hi => ?_⟩
  rw [hw.cell (p := ⟨b, o + i, none⟩) hb]
  exact hc i _ (by simp [boolsV, hi])
theorem Rd.len_bytes {w : World} {A : Option Addr} {n : Nat} {l : List UInt8} (h : Rd w 1 A n (bytesV l)) : l.length = n := by simpa [bytesV] using h.1
theorem Rd.len_bools {w : World} {A : Option Addr} {n : Nat} {l : List Bool} (h : Rd w 1 A n (boolsV l)) : l.length = n := by simpa [boolsV] using h.1
/-- Behind an append to a new row, seen from the world at the beginning. -/
theorem Grew.all {base : Nat} {w0 wr w1 : World} {o : Obj} {v : Value} (h : Grew base (wr.alloc o) w1 v) (hb : Below base w0 wr) (hs : base ≤ wr.heap.size) : Below base w0 w1 :=
  h.below (hb.alloc hs _) (Nat.le_refl _) (by simp; omega)

end Go.Proofs.YthjnbpfbhmfopaaDoor
